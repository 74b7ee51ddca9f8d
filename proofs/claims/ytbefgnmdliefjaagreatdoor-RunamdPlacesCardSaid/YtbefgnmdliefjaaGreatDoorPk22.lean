/-
  math/bits.Div64 as one answer. Conditions: none.
-/
import Derived.Test.YtbefgnmdliefjaaGreatDoorPk21
import Derived.Test.YtbefgnmdliefjaaGreatDoorPk19
import Derived.Lib.Mul64
import Derived.Test.YtbefgnmdliefjaaGreatDoorPk15
import Derived.Test.YtbefgnmdliefjaaGreatDoorPk16
import Derived.Test.YtbefgnmdliefjaaGreatDoorProg
import Derived.KernelRfl
set_option linter.unusedVariables false
set_option linter.unusedSimpArgs false
namespace Go.Ra
open Go Go.Ab Go.Proofs
def vI (y s:Int):Int:=wu (y*2 ^ Min.min (Int.toNat s) 64)
def u2I (h l s:Int):Int:=wu ((BitVec.toNat (BitVec.ofInt 64 (vI h s) ||| BitVec.ofInt 64 (Int.fdiv l (2 ^ Min.min (Int.toNat (wu (64 - s))) 64))):Nat):Int)
def loI (x:Int):Int:=wu ((BitVec.toNat (BitVec.ofInt 64 x &&& BitVec.ofInt 64 4294967295):Nat):Int)
def hiI (x:Int):Int:=Int.fdiv x (2 ^ 32)
def qI (a b:Int):Int:=wu (Int.tdiv a b)
def rI (a b:Int):Int:=wu (a - wu (qI a b*b))
def mI (a b q v:Int):Int:=wu (wu (wu (a*4294967296)+b) - wu (q*v))
def numH (h l y s:Int):Tree St:=
 .br (decide (0≤s)) (.br (decide (0≤s)) (.br (decide (0≤wu (64 - s))) (.br (decide (0≤s)) (.br (!decide (hiI (vI y s)=0)) (.leaf (.normal,[(0,.int .u64 h),(1,.int .u64 l),(2,.int .u64 (vI y s)),(8,.int .u64 s),(9,.int .u64 (hiI (vI y s))),(10,.int .u64 (loI (vI y s))),
  (11,.int .u64 (u2I h l s)),(12,.int .u64 (vI l s)),(13,.int .u64 (hiI (vI l s))),(14,.int .u64 (loI (vI l s))),(15,.int .u64 (qI (u2I h l s) (hiI (vI y s)))),(16,.int .u64 (rI (u2I h l s) (hiI (vI y s))))],[])) .fail) .fail) .fail) .fail) .fail
theorem numH_eq (h l y s:Int):(dcode cx151 (headN 8 (tailN 4 Bdv)) [(0,.int .u64 h),(1,.int .u64 l),(2,.int .u64 y),(8,.int .u64 s)] []).run=(numH h l y s).run:=dvNum_eq h l y s
def midH (q v v1 v0 u2 u1 u0 s:Int):Tree St:=
 .br (!decide (v1=0)) (.leaf (.normal,[(2,.int .u64 v),(8,.int .u64 s),(9,.int .u64 v1),(10,.int .u64 v0),(11,.int .u64 u2),(13,.int .u64 u1),(14,.int .u64 u0),(15,.int .u64 q),(16,.int .u64 (rI (mI u2 u1 q v) v1)),(17,.int .u64 (mI u2 u1 q v)),(18,.int .u64 (qI (mI u2 u1 q v) v1))],[])) .fail
theorem midH_eq (q v v1 v0 u2 u1 u0 s:Int):(dcode cx151 (headN 2 (tailN 14 Bdv)) [(2,.int .u64 v),(8,.int .u64 s),(9,.int .u64 v1),(10,.int .u64 v0),(11,.int .u64 u2),(13,.int .u64 u1),(14,.int .u64 u0),(15,.int .u64 q)] []).run=(midH q v v1 v0 u2 u1 u0 s).run:=dvMid_eq q v v1 v0 u2 u1 u0 s
def endH (q1 q0 v u21 u0 s:Int):Tree St:=
 .br (decide (0≤s)) (.leaf (.ret,[(2,.int .u64 v),(6,.int .u64 (wu (wu (q1*4294967296)+q0))),(7,.int .u64 (Int.fdiv (mI u21 u0 q0 v) (2 ^ Min.min (Int.toNat s) 64))),(8,.int .u64 s),(14,.int .u64 u0),(15,.int .u64 q1),(17,.int .u64 u21),(18,.int .u64 q0)],[])) .fail
theorem endH_eq (q1 q0 v u21 u0 s:Int):(dcode cx151 (tailN 18 Bdv) [(2,.int .u64 v),(8,.int .u64 s),(14,.int .u64 u0),(15,.int .u64 q1),(17,.int .u64 u21),(18,.int .u64 q0)] []).run=(endH q1 q0 v u21 u0 s).run:=dvEnd_eq q1 q0 v u21 u0 s
theorem hi_cast (x:Nat):hiI (x:Int)=((x / 4294967296:Nat):Int):=fdiv_cast x 32
theorem lo_cast' (x:Nat):loI (x:Int)=((x % 4294967296:Nat):Int):=lo_cast x
theorem q_cast {x v:Nat} (h:x<18446744073709551616):qI (x:Int) (v:Int)=((x / v:Nat):Int):=by
 unfold qI
 rw [tdiv_cast]
 exact wu_cast (by have:=Nat.div_le_self x v; omega)
theorem r_cast {x v:Nat} (h:x<18446744073709551616):rI (x:Int) (v:Int)=((x % v:Nat):Int):=by
 unfold rI
 rw [q_cast h]
 exact rest_cast h
theorem pt_v {v:Nat}:v / 4294967296*4294967296+v % 4294967296=v:=by omega
theorem pt_u {u2 u10:Nat}:u2*18446744073709551616+u10=(u2*4294967296+u10 / 4294967296)*4294967296+u10 % 4294967296:=by omega
theorem pt_lt {u2 u10 v:Nat} (h:u2*18446744073709551616+u10<v*18446744073709551616):u2*4294967296+u10 / 4294967296<v*4294967296:=by
 rw [pt_u] at h
 refine Nat.lt_of_not_le fun g=>Nat.not_le.2 h ?_
 have g:=Nat.mul_le_mul_right 4294967296 g
 rw [Nat.mul_assoc v 4294967296 4294967296] at g
 exact Nat.le_trans g (Nat.le_add_right _ _)
theorem pt_lt2 {u21 u0 v:Nat} (h:u21<v) (h0:u0<4294967296):u21*4294967296+u0<v*4294967296:=by omega
theorem pt_q {q1 q0:Nat} (h:q1*4294967296+q0<18446744073709551616):wu (wu ((q1:Int)*4294967296)+(q0:Int))=((q1*4294967296+q0:Nat):Int):=by
 rw [wu_mod,wu_mod]
 omega
set_option maxRecDepth 8000 in
set_option maxHeartbeats 1000000 in
theorem dv_part2 {v u21 u0 q1 s:Nat} (b2:9223372036854775808≤v) (b3:v<18446744073709551616) (hu0:u0<4294967296) (hm:u21<v) (hs:s≤64) (hq:q1*4294967296+(u21*4294967296+u0) / v<18446744073709551616) :
  AWP Tryz.prog 135 (tailN 2 (tailN 14 Bdv)) (fun e t H=>(e = .ret∨e = .normal)∧answerV Tryz.prog Tryz.f151.results.toList H t=some (.tup [.int .u64 ((q1*4294967296+(u21*4294967296+u0) / v:Nat):Int),.int .u64 (((u21*4294967296+u0) % v / 2 ^ s:Nat):Int)]))
   [(2,.int .u64 v),(8,.int .u64 (s:Nat)),(9,.int .u64 ((v / 4294967296:Nat):Int)),(10,.int .u64 ((v % 4294967296:Nat):Int)),(14,.int .u64 (u0:Nat)),(15,.int .u64 (q1:Nat)),(16,.int .u64 ((u21 % (v / 4294967296):Nat):Int)),(17,.int .u64 (u21:Nat)),(18,.int .u64 ((u21 / (v / 4294967296):Nat):Int))] []:=by
 have hok:CxOk cx151:=cx1_ok (ok1 lzS_ok) (.nil _) rfl rfl
 have eV:v / 4294967296*4294967296+v % 4294967296=v:=pt_v
 have hs0:decide ((0:Int)≤(s:Int))=true:=decide_eq_true (by omega)
 have ec2:tailN 2 (tailN 14 Bdv) = .seq (.block 2 (.loop (cin (cin (c1 (tailN 17 Bdv)))))) (tailN 18 Bdv):=by kernel_rfl
 rw [ec2]
 refine AWP_seq (AWP_block ?_)
 refine dv_loop (cx:=cx151) (P:=Tryz.prog) (n:=135) rfl rfl hok (st:=fun q r=>[(2,.int .u64 v),(8,.int .u64 (s:Nat)),(9,.int .u64 ((v / 4294967296:Nat):Int)),(10,.int .u64 ((v % 4294967296:Nat):Int)),(14,.int .u64 (u0:Nat)),(15,.int .u64 (q1:Nat)),(16,.int .u64 r),(17,.int .u64 (u21:Nat)),(18,.int .u64 q)])
  (ex:=2) (a:=113) (b:=120) (v1:=v / 4294967296) (v0:=v % 4294967296) (u2:=u21) (u1:=u0) (by omega) (by omega) (by omega) hu0 (by rw [eV]; exact pt_lt2 hm hu0)
  (fun q r x=>Fits.tle ⟨rfl,rfl,rfl,rfl,rfl,rfl,rfl,rfl,rfl,trivial⟩) (fun q r=>dv_rd2 _ _ _ _ _ _ _ q r) ?_
 intro r x
 rw [eV]
 show AWP _ _ _ _ _ _
 refine AWP.less (s:=[(2,.int .u64 v),(8,.int .u64 (s:Nat)),(14,.int .u64 (u0:Nat)),(15,.int .u64 (q1:Nat)),(17,.int .u64 (u21:Nat)),(18,.int .u64 (((u21*4294967296+u0) / v:Nat):Int))])
  (Fits.tle ⟨rfl,rfl,rfl,rfl,rfl,rfl,trivial⟩) ?_
 have ee:(dcode cx151 (tailN 18 Bdv) [(2,.int .u64 v),(8,.int .u64 (s:Nat)),(14,.int .u64 (u0:Nat)),(15,.int .u64 (q1:Nat)),(17,.int .u64 (u21:Nat)),(18,.int .u64 (((u21*4294967296+u0) / v:Nat):Int))] []).run=_:=(endH_eq _ _ _ _ _ _).trans (show _=some _ by unfold endH; rw [hs0]; rfl)
 refine AWP_run (cx:=cx151) rfl rfl hok ee ?_
 refine ⟨.inl rfl,?_⟩
 have em2:mI (u21:Nat) (u0:Nat) (((u21*4294967296+u0) / v:Nat):Int) (v:Nat)=(((u21*4294967296+u0) % v:Nat):Int):=rest2_cast (by omega) (by omega)
 refine Eq.trans (b:=some (V.tup [.int .u64 (wu (wu ((q1:Nat)*4294967296)+(((u21*4294967296+u0) / v:Nat):Int))),.int .u64 (Int.fdiv (mI (u21:Nat) (u0:Nat) (((u21*4294967296+u0) / v:Nat):Int) (v:Nat)) (2 ^ Min.min (Int.toNat (s:Nat)) 64))])) (by kernel_rfl) ?_
 rw [em2,min_cast (by omega),fdiv_cast]
 rw [pt_q hq]
set_option maxRecDepth 8000 in
set_option maxHeartbeats 1000000 in
theorem div_call {h l y:Nat} (hh:h<y) (hy:y<2 ^ 64) (hl:l<18446744073709551616):PCall Tryz.prog 151 [.int .u64 h,.int .u64 l,.int .u64 y] (.tup [.int .u64 (dq128 h l y),.int .u64 (dr128 h l y)]):=by
 have hok:CxOk cx151:=cx1_ok (ok1 lzS_ok) (.nil _) rfl rfl
 refine pcall_of' (c:=Bdv) (fn:=Tryz.f151) (by kernel_rfl) (by kernel_rfl) (by kernel_rfl) (by kernel_rfl) ?_
 rw [dq_cast,dr_cast]
 refine AWP_headE (cx:=cx151) rfl rfl hok 4 (by kernel_rfl) (dvHead_eq h l y) ?_
 refine all_f (by rw [beq_eq_false_iff_ne]; omega) (all_f (decide_eq_false (by omega)) ⟨fun h0=>?_,fun h0=>?_⟩)
 ·have h0:(h:Int)=0:=eq_of_beq h0
  have h0:h=0:=by omega
  subst h0
  have hn:(!decide ((y:Int)=0))=true:=by rw [decide_eq_false (by omega)]; rfl
  refine all_t hn (all_t hn ⟨.inl rfl,?_⟩)
  refine Eq.trans (b:=some (V.tup [.int .u64 (wu (Int.tdiv (l:Int) (y:Int))),.int .u64 (Int.tmod (l:Int) (y:Int))])) (by kernel_rfl) ?_
  have e1:wu (Int.tdiv (l:Int) (y:Int))=(((0*18446744073709551616+l) / y:Nat):Int):=by
   rw [tdiv_cast,Nat.zero_mul,Nat.zero_add]
   exact wu_cast (by have:=Nat.div_le_self l y; omega)
  have e2:Int.tmod (l:Int) (y:Int)=(((0*18446744073709551616+l) % y:Nat):Int):=by
   rw [Int.tmod_eq_emod_of_nonneg (by omega),Nat.zero_mul,Nat.zero_add]
   rfl
  rw [e1,e2]
 refine all_t (by simp only [rng64,Bool.and_eq_true,decide_eq_true_eq]; omega) ?_
 show AWP _ _ _ _ _ _
 have hy0:y ≠ 0:=by omega
 obtain ⟨b1,b2,b3⟩:=dvS_bd hy hy0
 have es:=sF_eq hy
 refine AWP.less (s:=[(0,.int .u64 h),(1,.int .u64 l),(2,.int .u64 y),(8,.int .u64 (dvS y:Nat))]) (Fits.tle ⟨rfl,rfl,rfl,congrArg (V.int .u64) es,trivial⟩) ?_
 refine AWP_headE (cx:=cx151) rfl rfl hok 8 (by kernel_rfl) (numH_eq h l y (dvS y:Nat)) ?_
 have ev:vI (y:Int) (dvS y:Nat)=((y*2 ^ dvS y:Nat):Int):=by
  refine (shl_cast (x:=y) (s:=dvS y) (by omega)).trans ?_
  rw [Nat.mod_eq_of_lt b3]
 have el:vI (l:Int) (dvS y:Nat)=((dvU10 l (dvS y):Nat):Int):=shl_cast (x:=l) (s:=dvS y) (by omega)
 obtain ⟨eu,hu2⟩:=u2_cast hy hy0 hh hl
 have eu:u2I (h:Int) (l:Int) (dvS y:Nat)=((dvU2 h l (dvS y):Nat):Int):=eu
 have hu:=dvU_eq (h:=h) (l:=l) (s:=dvS y) (by omega)
 have h10:dvU10 l (dvS y)<18446744073709551616:=Nat.mod_lt _ (by decide)
 have e64:wu (64 - ((dvS y:Nat):Int))=((64 - dvS y:Nat):Int):=by
  rw [show (64:Int) - ((dvS y:Nat):Int)=((64 - dvS y:Nat):Int) by omega]
  exact wu_cast (by omega)
 have htot:(h*18446744073709551616+l)*2 ^ dvS y<y*2 ^ dvS y*18446744073709551616:=by
  have h1:h*18446744073709551616+l<y*18446744073709551616:=by
   have:(h+1)*18446744073709551616≤y*18446744073709551616:=Nat.mul_le_mul_right _ hh
   omega
  have:=Nat.mul_lt_mul_of_pos_right h1 (Nat.two_pow_pos (dvS y))
  rw [Nat.mul_right_comm y] at this
  exact this
 have hend:=kn_shift (x:=h*18446744073709551616+l) (y:=y) (dvS y) (by omega)
 rw [← hu] at htot hend
 unfold numH
 rw [ev,el,eu,hi_cast,hi_cast,lo_cast',lo_cast',q_cast hu2,r_cast hu2]
 have hs0:decide ((0:Int)≤((dvS y:Nat):Int))=true:=decide_eq_true (by omega)
 refine all_t hs0 (all_t hs0 (all_t (by rw [e64]; exact decide_eq_true (by omega)) (all_t hs0 (all_t (by rw [decide_eq_false (by omega)]; rfl) ?_))))
 show AWP _ _ _ _ _ _
 have hq:=dq_lt hh hl
 rw [← hend.1] at hq ⊢
 rw [← hend.2]
 clear hend hu es ev el eu e64
 generalize hs:dvS y=s at *
 generalize dvU2 h l s=u2 at *
 generalize dvU10 l s=u10 at *
 generalize y*2 ^ s=v at *
 have ec:tailN 8 (tailN 4 Bdv) = .seq (.block 0 (.loop (cin (cin (c1 (tailN 13 Bdv)))))) (tailN 14 Bdv):=by kernel_rfl
 rw [ec]
 have eV:v / 4294967296*4294967296+v % 4294967296=v:=pt_v
 have eU:u2*18446744073709551616+u10=(u2*4294967296+u10 / 4294967296)*4294967296+u10 % 4294967296:=pt_u
 have hu1:u2*4294967296+u10 / 4294967296<v*4294967296:=pt_lt htot
 rw [eU] at hq ⊢
 obtain ⟨j1,j2⟩:=kn_join (v:=v) (x:=u2*4294967296+u10 / 4294967296) (u0:=u10 % 4294967296) (by omega)
 rw [← j1] at hq ⊢
 rw [← j2]
 refine AWP_seq (AWP_block ?_)
 refine AWP.less (s:=[(2,.int .u64 v),(8,.int .u64 (s:Nat)),(9,.int .u64 ((v / 4294967296:Nat):Int)),(10,.int .u64 ((v % 4294967296:Nat):Int)),(11,.int .u64 (u2:Nat)),(13,.int .u64 ((u10 / 4294967296:Nat):Int)),(14,.int .u64 ((u10 % 4294967296:Nat):Int)),(15,.int .u64 ((u2 / (v / 4294967296):Nat):Int)),(16,.int .u64 ((u2 % (v / 4294967296):Nat):Int))])
  (Fits.tle ⟨rfl,rfl,rfl,rfl,rfl,rfl,rfl,rfl,rfl,trivial⟩) ?_
 refine dv_loop (cx:=cx151) (P:=Tryz.prog) (n:=135) rfl rfl hok (st:=fun q r=>[(2,.int .u64 v),(8,.int .u64 (s:Nat)),(9,.int .u64 ((v / 4294967296:Nat):Int)),(10,.int .u64 ((v % 4294967296:Nat):Int)),(11,.int .u64 (u2:Nat)),(13,.int .u64 ((u10 / 4294967296:Nat):Int)),(14,.int .u64 ((u10 % 4294967296:Nat):Int)),(15,.int .u64 q),(16,.int .u64 r)])
  (ex:=0) (a:=78) (b:=85) (v1:=v / 4294967296) (v0:=v % 4294967296) (u2:=u2) (u1:=u10 / 4294967296) (by omega) (by omega) (by omega) (by omega) (by rw [eV]; exact hu1)
  (fun q r x=>Fits.tle ⟨rfl,rfl,rfl,rfl,rfl,rfl,rfl,rfl,rfl,trivial⟩) (fun q r=>dv_rd1 _ _ _ _ _ _ _ q r) ?_
 intro r x
 rw [eV]
 show AWP _ _ _ _ _ _
 refine AWP.less (s:=[(2,.int .u64 v),(8,.int .u64 (s:Nat)),(9,.int .u64 ((v / 4294967296:Nat):Int)),(10,.int .u64 ((v % 4294967296:Nat):Int)),(11,.int .u64 (u2:Nat)),(13,.int .u64 ((u10 / 4294967296:Nat):Int)),(14,.int .u64 ((u10 % 4294967296:Nat):Int)),(15,.int .u64 (((u2*4294967296+u10 / 4294967296) / v:Nat):Int))])
  (Fits.tle ⟨rfl,rfl,rfl,rfl,rfl,rfl,rfl,rfl,trivial⟩) ?_
 refine AWP_headE (cx:=cx151) rfl rfl hok 2 (by kernel_rfl) (midH_eq _ _ _ _ _ _ _ _) ?_
 have em:mI (u2:Nat) ((u10 / 4294967296:Nat):Int) (((u2*4294967296+u10 / 4294967296) / v:Nat):Int) (v:Nat)=(((u2*4294967296+u10 / 4294967296) % v:Nat):Int):=rest2_cast (by omega) (by omega)
 unfold midH
 have hm:=Nat.mod_lt (u2*4294967296+u10 / 4294967296) (show 0<v by omega)
 rw [em,q_cast (by omega),r_cast (by omega)]
 refine all_t (by rw [decide_eq_false (by omega)]; rfl) ?_
 show AWP _ _ _ _ _ _
 refine AWP.less (s:=[(2,.int .u64 v),(8,.int .u64 (s:Nat)),(9,.int .u64 ((v / 4294967296:Nat):Int)),(10,.int .u64 ((v % 4294967296:Nat):Int)),(14,.int .u64 ((u10 % 4294967296:Nat):Int)),(15,.int .u64 (((u2*4294967296+u10 / 4294967296) / v:Nat):Int)),(16,.int .u64 (((u2*4294967296+u10 / 4294967296) % v % (v / 4294967296):Nat):Int)),(17,.int .u64 (((u2*4294967296+u10 / 4294967296) % v:Nat):Int)),(18,.int .u64 (((u2*4294967296+u10 / 4294967296) % v / (v / 4294967296):Nat):Int))])
  (Fits.tle ⟨rfl,rfl,rfl,rfl,rfl,rfl,rfl,rfl,rfl,trivial⟩) ?_
 exact dv_part2 b2 b3 (by omega) hm (by omega) hq
def div64S:Ab.Spec:=fun args=>match args with
 | [.int .u64 h,.int .u64 l,.int .u64 y]=>.req (rng64 h && (rng64 l && (rng64 y && decide (h<y)))) (.leaf (.tup [.int .u64 (dq128 h l y),.int .u64 (dr128 h l y)]))
 | _=>.fail
theorem div64S_ok:Sound Tryz.prog 151 div64S:=by
 intro args out g
 unfold div64S at g
 split at g
 rotate_left
 ·cases g
 rename_i h l y
 obtain ⟨h1,g⟩:=req_run g
 cases g
 simp only [rng64,Bool.and_eq_true,decide_eq_true_eq] at h1
 obtain ⟨⟨a1,a2⟩,⟨b1,b2⟩,⟨c1,c2⟩,d⟩:=h1
 obtain ⟨h,rfl⟩:=Int.eq_ofNat_of_zero_le a1
 obtain ⟨l,rfl⟩:=Int.eq_ofNat_of_zero_le b1
 obtain ⟨y,rfl⟩:=Int.eq_ofNat_of_zero_le c1
 exact div_call (by omega) (by omega) (by omega)
end Go.Ra

namespace Go.Ra
open Go Go.Ab Go.Proofs
def shlF (x c:Int):Int:=IntKind.wrap .u64 (x*2 ^ (min c.toNat 64))
def shrF (x c:Int):Int:=Int.fdiv x (2 ^ (min c.toNat 64))
def andU (a b:Int):Int:=IntKind.wrap .u64 (((BitVec.ofInt 64 a &&& BitVec.ofInt 64 b).toNat:Nat):Int)
noncomputable def cx150:Cx:={ P:=Tryz.prog,n:=51,tab:=[],mtab:=[],refs:=[],keeps:=[0,1,4,5,6,7,8,9,10,11,12,13] }
def s32 (x:Int):Int:=Int.fdiv x (2 ^ 32)
def lo32 (x:Int):Int:=andU x 4294967295
def mulA (a b:Int):Int:=wu (wu (s32 a*lo32 b)+s32 (wu (lo32 a*lo32 b)))
def mulB (a b:Int):Int:=wu (lo32 (mulA a b)+wu (lo32 a*s32 b))
def mulC (a b:Int):Int:=wu (wu (wu (s32 a*s32 b)+s32 (mulA a b))+s32 (mulB a b))
theorem mul_eq (a b:Int):(dfun cx150 Tryz.f150 [.int .u64 a,.int .u64 b]).fin=some (.tup [.int .u64 (mulC a b),.int .u64 (wu (a*b))]):=by kernel_rfl
theorem lo32_cast (x:Nat):lo32 (x:Int)=((x % 4294967296:Nat):Int):=by
 unfold lo32 andU
 have e1:(BitVec.ofInt 64 (x:Int)).toNat=x % 18446744073709551616:=by
  rw [BitVec.toNat_ofInt]
  omega
 rw [BitVec.toNat_and,e1,show (BitVec.ofInt 64 4294967295).toNat=2 ^ 32 - 1 from by decide,Nat.and_two_pow_sub_one_eq_mod]
 show ((x % 18446744073709551616 % 2 ^ 32:Nat):Int) % 18446744073709551616=_
 omega
theorem s32_cast (x:Nat):s32 (x:Int)=((x / 4294967296:Nat):Int):=by
 unfold s32
 rw [Int.fdiv_eq_ediv_of_nonneg _ (by decide)]
 rfl
theorem mulC_eq {a b:Int} (ha:rng64 a=true) (hb:rng64 b=true):mulC a b=a*b / 18446744073709551616:=by
 simp only [rng64,Bool.and_eq_true,decide_eq_true_eq] at ha hb
 obtain ⟨x,rfl⟩:=Int.eq_ofNat_of_zero_le ha.1
 obtain ⟨y,rfl⟩:=Int.eq_ofNat_of_zero_le hb.1
 obtain ⟨b1,b2,b3,e⟩:=Lib.mul64_hi x y (by omega) (by omega)
 have c1:=Lib.half_mul_le (a:=x / 4294967296) (b:=y / 4294967296) (by omega) (by omega)
 have c2:=Lib.half_mul_le (a:=x / 4294967296) (b:=y % 4294967296) (by omega) (by omega)
 have c3:=Lib.half_mul_le (a:=x % 4294967296) (b:=y / 4294967296) (by omega) (by omega)
 have e1:mulA x y=((x / 4294967296*(y % 4294967296)+x % 4294967296*(y % 4294967296) / 4294967296:Nat):Int):=by
  unfold mulA
  rw [lo32_cast,lo32_cast,s32_cast,← Int.natCast_mul,← Int.natCast_mul,wu_cast (by omega),wu_cast b1,s32_cast,← Int.natCast_add,wu_cast b2]
 have e2:mulB x y=(((x / 4294967296*(y % 4294967296)+x % 4294967296*(y % 4294967296) / 4294967296) % 4294967296+x % 4294967296*(y / 4294967296):Nat):Int):=by
  unfold mulB
  rw [e1,lo32_cast,lo32_cast,s32_cast,← Int.natCast_mul,wu_cast (by omega),← Int.natCast_add,wu_cast b3]
 unfold mulC
 rw [e1,e2,s32_cast,s32_cast,s32_cast,s32_cast,← Int.natCast_mul,wu_cast (by omega),← Int.natCast_add,wu_cast (by omega),← Int.natCast_add,wu_cast,e,Int.natCast_ediv,Int.natCast_mul]
 ·rfl
 ·rw [e]
  have:x*y / 18446744073709551616<18446744073709551616:=by
   rw [Nat.div_lt_iff_lt_mul (by decide)]
   exact Nat.mul_lt_mul'' (by omega) (by omega)
  omega
def mulHi (a b:Int):Int:=a*b / 18446744073709551616
def mulS:Ab.Spec:=fun args=>match args with
 | [.int .u64 a,.int .u64 b]=>.req (rng64 a && rng64 b) (.leaf (.tup [.int .u64 (mulHi a b),.int .u64 (wu (a*b))]))
 | _=>.fail
theorem mulS_ok:Sound Tryz.prog 150 mulS:=by
 intro args out h
 unfold mulS at h
 split at h
 rotate_left
 ·cases h
 rename_i a b
 obtain ⟨h1,h⟩:=req_run h
 cases h
 obtain ⟨g1,g2⟩:=Bool.and_eq_true_iff.1 h1
 refine pcall_fun' (cx:=cx150) (fn:=Tryz.f150) (cx0_ok rfl rfl) (by kernel_rfl) (by kernel_rfl) (by kernel_rfl) ?_
 rw [← Tree.fin_run,mul_eq,mulC_eq g1 g2]
 rfl
end Go.Ra

namespace Go.Amd
open Go Go.Ab Go.Proofs
theorem cx0_ok {cx:Cx} (h1:cx.tab=[]) (h2:cx.mtab=[]) (h3:cx.rtab=[]:=by rfl) (h4:∀ p ∈ cx.globs,p ∈ globsOf cx.P:=by intro p h; cases h):CxOk cx:=by
 refine ⟨?_,?_,?_,h4⟩
 ·rw [h1]; exact .nil _
 ·rw [h2]; exact .nil _
 ·rw [h3]; exact .nil _
theorem cx1_ok {cx:Cx} {t:List (Nat × Ab.Spec)} {m:List (Nat × MSpec)} (ht:TabOk cx.P t) (hm:MTabOk cx.P m) (h1:cx.tab=t) (h2:cx.mtab=m) (h3:cx.rtab=[]:=by rfl) (h4:∀ p ∈ cx.globs,p ∈ globsOf cx.P:=by intro p h; cases h):CxOk cx:=by
 refine ⟨?_,?_,?_,h4⟩
 ·rw [h1]; exact ht
 ·rw [h2]; exact hm
 ·rw [h3]; exact .nil _
abbrev rowE:EC:=.prod [.str,.int .i64,.int .u16,.int .i64,.int .u8,.bool,.int .i64,.int .i64,.str]
abbrev RowT:=List UInt8 × Int × Int × Int × Int × Bool × Int × Int × List UInt8
noncomputable def cx199:Cx:={ P:=Tryz.prog,n:=32,tab:=[],mtab:=[],refs:=[],keeps:=[0,1,2,4,7,8,9,10,11],fuel:=10 }
noncomputable def likeS:MSpec:=fun args H=>.req (Nat.ble args.length Tryz.f199.ntmps) (mfun cx199 Tryz.f199 args H)
theorem likeS_ok:MSound Tryz.prog 199 likeS:=msound_fun (cx:=cx199) (fn:=Tryz.f199) (cx0_ok rfl rfl) (by kernel_rfl) (by kernel_rfl)
noncomputable def cx140:Cx:={ P:=Tryz.prog,n:=62,tab:=[],mtab:=[(199,likeS)],refs:=[],keeps:=[0,2,3,4] }
noncomputable def cx141:Cx:={ P:=Tryz.prog,n:=75,tab:=[],mtab:=[(199,likeS)],refs:=[],keeps:=[0] }
noncomputable def cx142:Cx:={ P:=Tryz.prog,n:=43,tab:=[],mtab:=[(199,likeS)],refs:=[],keeps:=[0] }
def movesL:List RowT:=[
 ([109,111,118,46,114,114],1,137,7,0,false,0,0,[65,66]),
 ([109,111,118,46,114,105],1,184,2,0,false,-9223372036854775808,9223372036854775807,[65,105]),
 ([109,111,118,46,114,115],1,199,4,0,false,-2147483648,2147483647,[65,105]),
 ([109,111,118,46,114,109],1,139,9,0,false,-2147483648,2147483647,[65,109]),
 ([109,111,118,108,46,114,109],0,139,9,0,false,-2147483648,2147483647,[65,109]),
 ([109,111,118,115,108,46,114,109],1,99,9,0,false,-2147483648,2147483647,[65,109]),
 ([109,111,118,122,98,46,114,109],1,4022,9,0,false,-2147483648,2147483647,[65,109]),
 ([108,101,97],1,141,9,0,false,-2147483648,2147483647,[65,109]),
 ([109,111,118,46,109,114],1,137,9,0,false,-2147483648,2147483647,[65,109]),
 ([109,111,118,108,46,109,114],0,137,9,0,false,-2147483648,2147483647,[65,109]),
 ([109,111,118,98,46,109,114],2,136,9,0,false,-2147483648,2147483647,[65,109]),
 ([109,111,118,46,102,115],1,139,10,0,false,-2147483648,2147483647,[65,105])]
@[irreducible] def rowsL:List RowT:=[
 ([109,111,118,46,114,114],1,137,7,0,false,0,0,[65,66]),
 ([109,111,118,46,114,105],1,184,2,0,false,-9223372036854775808,9223372036854775807,[65,105]),
 ([109,111,118,46,114,115],1,199,4,0,false,-2147483648,2147483647,[65,105]),
 ([109,111,118,46,114,109],1,139,9,0,false,-2147483648,2147483647,[65,109]),
 ([109,111,118,108,46,114,109],0,139,9,0,false,-2147483648,2147483647,[65,109]),
 ([109,111,118,115,108,46,114,109],1,99,9,0,false,-2147483648,2147483647,[65,109]),
 ([109,111,118,122,98,46,114,109],1,4022,9,0,false,-2147483648,2147483647,[65,109]),
 ([108,101,97],1,141,9,0,false,-2147483648,2147483647,[65,109]),
 ([109,111,118,46,109,114],1,137,9,0,false,-2147483648,2147483647,[65,109]),
 ([109,111,118,108,46,109,114],0,137,9,0,false,-2147483648,2147483647,[65,109]),
 ([109,111,118,98,46,109,114],2,136,9,0,false,-2147483648,2147483647,[65,109]),
 ([109,111,118,46,102,115],1,139,10,0,false,-2147483648,2147483647,[65,105]),
 ([97,100,100,46,114,114],1,1,7,0,false,0,0,[65,66]),
 ([111,114,46,114,114],1,9,7,0,false,0,0,[65,66]),
 ([97,110,100,46,114,114],1,33,7,0,false,0,0,[65,66]),
 ([115,117,98,46,114,114],1,41,7,0,false,0,0,[65,66]),
 ([120,111,114,46,114,114],1,49,7,0,false,0,0,[65,66]),
 ([99,109,112,46,114,114],1,57,7,0,false,0,0,[65,66]),
 ([97,100,100,46,114,109],1,3,9,0,false,-2147483648,2147483647,[65,109]),
 ([111,114,46,114,109],1,11,9,0,false,-2147483648,2147483647,[65,109]),
 ([97,110,100,46,114,109],1,35,9,0,false,-2147483648,2147483647,[65,109]),
 ([115,117,98,46,114,109],1,43,9,0,false,-2147483648,2147483647,[65,109]),
 ([120,111,114,46,114,109],1,51,9,0,false,-2147483648,2147483647,[65,109]),
 ([99,109,112,46,114,109],1,59,9,0,false,-2147483648,2147483647,[65,109]),
 ([97,100,100,46,114,105],1,131,6,0,false,-2147483648,2147483647,[65,105]),
 ([111,114,46,114,105],1,131,6,1,false,-2147483648,2147483647,[65,105]),
 ([97,110,100,46,114,105],1,131,6,4,false,-2147483648,2147483647,[65,105]),
 ([115,117,98,46,114,105],1,131,6,5,false,-2147483648,2147483647,[65,105]),
 ([120,111,114,46,114,105],1,131,6,6,false,-2147483648,2147483647,[65,105]),
 ([99,109,112,46,114,105],1,131,6,7,false,-2147483648,2147483647,[65,105]),
 ([116,101,115,116,46,114,114],1,133,7,0,false,0,0,[65,66]),
 ([105,109,117,108,46,114,114],1,4015,8,0,false,0,0,[65,66]),
 ([110,111,116],1,247,3,2,false,0,0,[65]),
 ([110,101,103],1,247,3,3,false,0,0,[65]),
 ([109,117,108],1,247,3,4,false,0,0,[65]),
 ([100,105,118],1,247,3,6,false,0,0,[65]),
 ([105,100,105,118],1,247,3,7,false,0,0,[65]),
 ([99,113,111],1,153,0,0,false,0,0,[]),
 ([115,104,108,46,114,105],1,193,5,4,false,0,63,[65,105]),
 ([115,104,114,46,114,105],1,193,5,5,false,0,63,[65,105]),
 ([115,97,114,46,114,105],1,193,5,7,false,0,63,[65,105]),
 ([115,104,108,46,114,99],1,211,3,4,false,0,0,[65]),
 ([115,104,114,46,114,99],1,211,3,5,false,0,0,[65]),
 ([115,97,114,46,114,99],1,211,3,7,false,0,0,[65]),
 ([99,109,111,118],1,3904,8,0,true,0,0,[65,66,99]),
 ([112,117,115,104],0,80,1,0,false,0,0,[65]),
 ([112,111,112],0,88,1,0,false,0,0,[65]),
 ([99,97,108,108],0,232,11,0,false,-2147483648,2147483647,[106]),
 ([106,109,112],0,233,11,0,false,-2147483648,2147483647,[106]),
 ([106,109,112,46,115],0,235,12,0,false,-128,127,[106]),
 ([99,97,108,108,46,114],0,255,3,2,false,0,0,[65]),
 ([106,109,112,46,114],0,255,3,4,false,0,0,[65]),
 ([106,99,99],0,3968,11,0,true,-2147483648,2147483647,[99,106]),
 ([106,99,99,46,115],0,112,12,0,true,-128,127,[99,106]),
 ([114,101,116],0,195,0,0,false,0,0,[]),
 ([115,121,115,99,97,108,108],0,3845,0,0,false,0,0,[]),
 ([110,111,112],0,144,0,0,false,0,0,[]),
 ([117,100,50],0,3851,0,0,false,0,0,[])]
def mvH:List O:=[.cells [.gro 1 rowE []] 176,.tok 0 9]
noncomputable def mvOf (x:Option St):T × List O:=match x with
 | some (.normal,t,H)=>(t,H)
 | _=>([],[])
@[irreducible] noncomputable def mv4:T × List O:=mvOf (dcode cx140 (headN 3 (bodyOf Tryz.f140)) [(0,.ptr 0 0)] mvH).run
theorem mv4_eq:(dcode cx140 (headN 3 (bodyOf Tryz.f140)) [(0,.ptr 0 0)] mvH).run=some (.normal,mv4.1,mv4.2):=by kernel_rfl
noncomputable def mvOps:Array Oper:=regOps (c1 (tailN 3 (bodyOf Tryz.f140)))
@[irreducible] noncomputable def mv5:T × List O:=mvOf (((ordsF cx140 mvOps mvOps.size (Array.replicate mvOps.size false) mv4).map (fun l=>l.map fun s=>dropS mv4.2.length (ordK [3,4] s.1) (.normal,s.1,s.2))).getD []).head?.join
set_option maxRecDepth 8000 in
theorem mv5_eq:(ordsF cx140 mvOps mvOps.size (Array.replicate mvOps.size false) (mv4.1,mv4.2)).map (fun l=>l.map fun s=>dropS mv4.2.length (ordK [3,4] s.1) (.normal,s.1,s.2))=some (List.replicate 30 (some (.normal,mv5.1,mv5.2))):=by kernel_rfl
@[irreducible] noncomputable def mvE:St:=((dcode cx140 (c2 (tailN 3 (bodyOf Tryz.f140))) mv5.1 mv5.2).run).getD (.normal,[],[])
theorem mvE_eq:(dcode cx140 (c2 (tailN 3 (bodyOf Tryz.f140))) mv5.1 mv5.2).run=some mvE:=by kernel_rfl
theorem mvE_out:(dropS 2 [] mvE).map (fun s=>(match s.1 with | .normal=>true | _=>false,s.2.2))=some (true,[.cells [.gro 1 rowE movesL] 176,.tok 12 9]):=by kernel_rfl
def movesS:MSpec:=fun args H=>match args,H with
 | [.ptr 0 0],[.cells [.gro 1 (.prod [.str,.int .i64,.int .u16,.int .i64,.int .u8,.bool,.int .i64,.int .i64,.str]) []] 176,.tok 0 9]=>.leaf (.ok (.tup []) [.cells [.gro 1 rowE movesL] 176,.tok 12 9])
 | _,_=>.fail
theorem cxMoves_ok:CxOk cx140:=cx1_ok (.nil _) (.cons likeS_ok (.nil _)) rfl rfl
set_option maxHeartbeats 2000000 in
set_option maxRecDepth 8000 in
theorem movesS_ok:MSound Tryz.prog 140 movesS:=by
 intro args H r h
 unfold movesS at h
 split at h
 rotate_left
 ·cases h
 simp only [Tree.run,Option.some.injEq] at h
 subst h
 refine mcall_of' (c:=bodyOf Tryz.f140) (fn:=Tryz.f140) (by kernel_rfl) (by kernel_rfl) (by kernel_rfl) (by kernel_rfl) ?_
 refine AWP_scope ?_
 refine AWP_head (cx:=cx140) rfl rfl cxMoves_ok 3 _ _ _ _ (by kernel_rfl) (Tree.run_all mv4_eq ?_)
 show AWP _ _ _ _ _ _
 have e:tailN 3 (bodyOf Tryz.f140) = .seq (.region 4 mvOps true) (c2 (tailN 3 (bodyOf Tryz.f140))):=by kernel_rfl
 rw [e]
 refine AWP_seq (AWP_ordersK (cx:=cx140) [3,4] 30 rfl rfl cxMoves_ok (by kernel_rfl) mv5_eq ?_)
 show AWP _ _ _ _ _ _
 refine AWP_run (cx:=cx140) rfl rfl cxMoves_ok mvE_eq ?_
 obtain ⟨⟨ex,t,H⟩,h1,h2⟩:=Option.map_eq_some_iff.1 mvE_out
 simp only [Prod.mk.injEq] at h2
 obtain ⟨h2,rfl⟩:=h2
 refine ⟨[],_,h1,?_⟩
 cases ex with
 | normal =>
  show MPost Tryz.prog Tryz.f140 (.ok (.tup []) [.cells [.gro 1 rowE movesL] 176,.tok 12 9]) .normal t [.cells [.gro 1 rowE movesL] 176,.tok 12 9]
  unfold MPost
  exact ⟨.inr rfl,rfl,by kernel_rfl⟩
 | exit _=>cases h2
 | ret=>cases h2
 | panic _=>cases h2
noncomputable def sumsS:MSpec:=fun args H=>.req (Nat.ble args.length Tryz.f141.ntmps) (mfun cx141 Tryz.f141 args H)
theorem sumsS_ok:MSound Tryz.prog 141 sumsS:=msound_fun (cx:=cx141) (fn:=Tryz.f141) (cx1_ok (.nil _) (.cons likeS_ok (.nil _)) rfl rfl) (by kernel_rfl) (by kernel_rfl)
noncomputable def jumpsS:MSpec:=fun args H=>.req (Nat.ble args.length Tryz.f142.ntmps) (mfun cx142 Tryz.f142 args H)
theorem jumpsS_ok:MSound Tryz.prog 142 jumpsS:=msound_fun (cx:=cx142) (fn:=Tryz.f142) (cx1_ok (.nil _) (.cons likeS_ok (.nil _)) rfl rfl) (by kernel_rfl) (by kernel_rfl)
noncomputable def cx92:Cx:={ P:=Tryz.prog,n:=7,tab:=[],mtab:=[(140,movesS),(141,sumsS),(142,jumpsS)],refs:=[],keeps:=[0,1] }
def rowsS:Ab.Spec:=fun args=>match args with
 | []=>.leaf (.sl rowE rowsL [] .ro)
 | _=>.fail
theorem rows_run:(dfun cx92 Tryz.f92 []).run=some (.sl rowE rowsL [] .ro):=by kernel_rfl
theorem rowsL_len:rowsL.length=58:=by kernel_rfl
theorem rowsS_ok:Sound Tryz.prog 92 rowsS:=by
 intro args out h
 unfold rowsS at h
 split at h
 rotate_left
 ·cases h
 simp only [Tree.run,Option.some.injEq] at h
 subst h
 exact pcall_fun' (cx:=cx92) (fn:=Tryz.f92) (cx1_ok (.nil _) (.cons movesS_ok (.cons sumsS_ok (.cons jumpsS_ok (.nil _)))) rfl rfl) (by kernel_rfl) (by kernel_rfl) (by kernel_rfl) rows_run
end Go.Amd

namespace Go.Amd
open Go Go.Ab Go.Proofs
def rowL (r:RowT):List V:=[.str r.1,.int .i64 r.2.1,.int .u16 r.2.2.1,.int .i64 r.2.2.2.1,.int .u8 r.2.2.2.2.1,.bool r.2.2.2.2.2.1,.int .i64 r.2.2.2.2.2.2.1,.int .i64 r.2.2.2.2.2.2.2.1,.str r.2.2.2.2.2.2.2.2]
noncomputable def cx51:Cx:={ P:=Tryz.prog,n:=19,tab:=[(92,rowsS)],mtab:=[],refs:=[],keeps:=[0,2,3,5,6,7,8,9,15] }
noncomputable abbrev cxFind:Cx:=cx51
def zeroR:RowT:=([],0,0,0,0,false,0,0,[])
abbrev rowAt (l:List RowT) (i:Nat):RowT:=l.getD i zeroR
def findRound (nm:List UInt8) (i:Int) (l:List RowT):Tree St:=
 (.br (decide (i<(l.length:Nat))) (.br (inside i l.length) (.br (strEq (rowAt l i.toNat).1 nm)
  (.leaf (.ret,[(0,.str nm),(2,.ptr 0 0),(3,.bool true),(5,.ptr 1 0),(6,.sl rowE l [] .ro),(7,.int .i64 (l.length:Nat)),(8,.int .i64 i),(9,.bool true),(15,.bool true)],[.cells (rowL (rowAt l i.toNat)) 104,.cells (rowL (rowAt l i.toNat)) 104]))
  (.leaf (.normal,[(0,.str nm),(2,.ptr 0 0),(3,.bool false),(5,.ptr 1 0),(6,.sl rowE l [] .ro),(7,.int .i64 (l.length:Nat)),(8,.int .i64 (IntKind.wrap .i64 (i+1))),(9,.bool true),(15,.bool false)],[.cells (rowL zeroR) 104,.cells (rowL (rowAt l i.toNat)) 104]))) .fail)
  (.leaf (.exit 0,[(0,.str nm),(2,.ptr 0 0),(3,.bool false),(6,.sl rowE l [] .ro),(7,.int .i64 (l.length:Nat)),(8,.int .i64 i),(9,.bool false)],[.cells (rowL zeroR) 104])))
theorem findRound_eq (nm:List UInt8) (i:Int) (l:List RowT):(dcode cxFind (cin (cin (c2 (c1 (c2 (bodyOf Tryz.f51)))))) [(0,.str nm),(2,.ptr 0 0),(3,.bool false),(6,.sl rowE l [] .ro),(7,.int .i64 l.length),(8,.int .i64 i)] [.cells (rowL zeroR) 104]).run=(findRound nm i l).run:=
 (show (dcode cxFind (cin (cin (c2 (c1 (c2 (bodyOf Tryz.f51)))))) [(0,.str nm),(2,.ptr 0 0),(3,.bool false),(6,.sl rowE l [] .ro),(7,.int .i64 l.length),(8,.int .i64 i)] [.cells (rowL zeroR) 104]).run=(findRound nm i l).out by kernel_rfl).trans (Tree.out_run _)
theorem cxFind_ok:CxOk cxFind:=cx1_ok (.cons rowsS_ok (.nil _)) (fun p h=>by cases h) rfl rfl
def findL (nm:List UInt8) (l:List RowT):Option RowT:=l.find? fun r=>strEq r.1 nm
def frow (nm:List UInt8):RowT:=(findL nm rowsL).getD zeroR
def fok (nm:List UInt8):Bool:=(findL nm rowsL).isSome
def findS:Ab.Spec:=fun args=>match args with
 | [.str nm]=>.leaf (.tup [.agg (rowL (frow nm)),.bool (fok nm)])
 | _=>.fail
def findSt (nm:List UInt8) (i:{ i:Nat // i≤rowsL.length∧findL nm (rowsL.take i)=none }):T × List O:=
 ([(0,.str nm),(2,.ptr 0 0),(3,.bool false),(6,.sl rowE rowsL [] .ro),(7,.int .i64 rowsL.length),(8,.int .i64 i.1)],[.cells (rowL zeroR) 104])
theorem find_ok (nm:List UInt8):PCall Tryz.prog 51 [.str nm] (.tup [.agg (rowL (frow nm)),.bool (fok nm)]):=by
 refine pcall_of' (c:=bodyOf Tryz.f51) (fn:=Tryz.f51) (by kernel_rfl) (by kernel_rfl) (by kernel_rfl) (by kernel_rfl) ?_
 have e:bodyOf Tryz.f51 = .seq (c1 (bodyOf Tryz.f51)) (.seq (.seq (c1 (c1 (c2 (bodyOf Tryz.f51)))) (.block 0 (.loop (cin (cin (c2 (c1 (c2 (bodyOf Tryz.f51))))))))) (c2 (c2 (bodyOf Tryz.f51)))):=by kernel_rfl
 rw [e]
 generalize hQ:(fun e t H=>(e=AEx.ret∨e = .normal)∧answerV Tryz.prog Tryz.f51.results.toList H t=some (.tup [.agg (rowL (frow nm)),.bool (fok nm)]))=Q
 have hlen:=rowsL_len
 refine AWP_seq (AWP_run (cx:=cxFind) rfl rfl cxFind_ok (s:=(.normal,[(0,.str nm),(2,.ptr 0 0),(3,.bool false)],[.cells (rowL zeroR) 104])) (by kernel_rfl) ?_)
 refine AWP_seq (AWP_seq (AWP_run (cx:=cxFind) rfl rfl cxFind_ok (s:=(.normal,[(0,.str nm),(2,.ptr 0 0),(3,.bool false),(6,.sl rowE rowsL [] .ro),(7,.int .i64 58),(8,.int .i64 0)],[.cells (rowL zeroR) 104])) (by kernel_rfl) ?_))
 refine AWP_block ?_
 refine AWP.less (s:=(findSt nm ⟨0,Nat.zero_le _,rfl⟩).1) (Fits.tle ⟨rfl,rfl,rfl,rfl,by kernel_rfl,rfl,trivial⟩) ?_
 refine AWP_rounds (cx:=cxFind) (P:=Tryz.prog) (n:=19) rfl rfl cxFind_ok (findSt nm) (fun i=>58 - i.1) ?_ ⟨0,Nat.zero_le _,rfl⟩
 rintro ⟨i,hi,hnone⟩
 refine Tree.all_run_eq (findRound_eq nm i rowsL) ?_
 refine ⟨fun hlt=>⟨fun hin=>⟨fun hp=>?_,fun hp=>?_⟩,fun hin=>?_⟩,fun hge=>?_⟩
 ·-- found
  have hlt:i<rowsL.length:=Int.ofNat_lt.1 (of_decide_eq_true hlt)
  have hf:findL nm rowsL=some (rowsL.getD i zeroR):=take_some hlt hnone hp
  refine ⟨[],_,rfl,?_⟩
  subst hQ
  refine ⟨.inl rfl,?_⟩
  have h1:frow nm=rowsL.getD i zeroR:=by unfold frow; rw [hf]; rfl
  have h2:fok nm=true:=by unfold fok; rw [hf]; rfl
  show answerV _ _ _ _=some _
  rw [h1,h2]
  kernel_rfl
 ·have hlt:i<rowsL.length:=Int.ofNat_lt.1 (of_decide_eq_true hlt)
  have hf:findL nm (rowsL.take (i+1))=none:=take_none hlt hnone hp
  refine ⟨[],_,rfl,⟨i+1,hlt,hf⟩,by show 58 - (i+1)<58 - i; omega,Fits.tle ⟨rfl,rfl,rfl,rfl,rfl,?_,trivial⟩,rfl⟩
  show V.int .i64 (IntKind.wrap .i64 ((i:Int)+1))=V.int .i64 ((i+1:Nat):Int)
  rw [wrap_i64 (by omega) (by omega)]
  rfl
 ·exfalso
  have hlt:i<rowsL.length:=Int.ofNat_lt.1 (of_decide_eq_true hlt)
  exact Bool.noConfusion ((inside_of (Int.natCast_nonneg i) (Int.ofNat_lt.2 hlt)).symm.trans hin)
 ·have hge:¬ ((i:Int)<rowsL.length):=of_decide_eq_false hge
  have hi' : i=rowsL.length:=by omega
  refine ⟨[],_,rfl,?_⟩
  show AWP _ _ _ _ _ _
  refine AWP.less (s:=[(0,.str nm),(2,.ptr 0 0),(3,.bool false)]) (Fits.tle ⟨rfl,rfl,rfl,trivial⟩) ?_
  refine AWP_run (cx:=cxFind) rfl rfl cxFind_ok (s:=(.ret,[(0,.str nm),(2,.ptr 0 0),(3,.bool false)],[.cells (rowL zeroR) 104])) (by kernel_rfl) ?_
  subst hQ
  refine ⟨.inl rfl,?_⟩
  have hf:findL nm rowsL=none:=by rw [← hnone,hi',List.take_length]
  have h1:frow nm=zeroR:=by unfold frow; rw [hf]; rfl
  have h2:fok nm=false:=by unfold fok; rw [hf]; rfl
  show answerV _ _ _ _=some _
  rw [h1,h2]
  kernel_rfl
theorem findS_ok:Sound Tryz.prog 51 findS:=by
 intro args out h
 unfold findS at h
 split at h
 rotate_left
 ·cases h
 simp only [Tree.run,Option.some.injEq] at h
 subst h
 exact find_ok _
end Go.Amd

namespace Go.Amd
open Go Go.Ab Go.Proofs
theorem leaf_out {α:Type} {b o:α} (h:(Tree.leaf b).run=some o):o=b:=by simpa [Tree.run] using h.symm
theorem ok1 {P:Program} {f:Nat} {s:Ab.Spec} (h:Sound P f s):TabOk P [(f,s)]:=.cons h (.nil _)
theorem all_t {α:Type} {c:Bool} {x y:Tree α} {Q:α→Prop} (h:c=true) (hx:x.all Q):(Tree.br c x y).all Q:=⟨fun _=>hx,fun e=>Bool.noConfusion (h.symm.trans e)⟩
abbrev InsT:=List UInt8 × Int × Int × Int × Int × Int
def insL (i:InsT):List V:=[.str i.1,.int .i64 i.2.1,.int .i64 i.2.2.1,.int .i64 i.2.2.2.1,.int .i64 i.2.2.2.2.1,.int .i64 i.2.2.2.2.2]
abbrev insV (i:InsT):V:=.agg (insL i)
noncomputable def cx94:Cx:={ P:=Tryz.prog,n:=18,tab:=[],mtab:=[],refs:=[],keeps:=[0,1,4] }
noncomputable def cx96:Cx:={ P:=Tryz.prog,n:=17,tab:=[],mtab:=[],refs:=[],keeps:=[0,2] }
noncomputable def cx95:Cx:={ P:=Tryz.prog,n:=67,tab:=[],mtab:=[],refs:=[],keeps:=[0,1,2,3,19] }
def regT (n:Int) (u:Bool):Tree V:=
 (.br (n == 0) (.leaf (.bool true)) (.br u (.br (decide (0<n)) (.leaf (.bool (decide (n≤15)))) (.leaf (.bool false))) (.leaf (.bool false))))
theorem regT_eq (n:Int) (u:Bool):(dfun cx94 Tryz.f94 [.int .i64 n,.bool u]).run=(regT n u).run:=
 (show (dfun cx94 Tryz.f94 [.int .i64 n,.bool u]).run=(regT n u).out by kernel_rfl).trans (Tree.out_run _)
def condT (n:Int):Tree V:=
 (.br (decide (0≤n)) (.br (decide (n≤9)) (.leaf (.bool true)) (.br (decide (12≤n)) (.leaf (.bool (decide (n≤15)))) (.leaf (.bool false)))) (.br (decide (12≤n)) (.leaf (.bool (decide (n≤15)))) (.leaf (.bool false))))
theorem condT_eq (n:Int):(dfun cx96 Tryz.f96 [.int .i64 n]).run=(condT n).run:=
 (show (dfun cx96 Tryz.f96 [.int .i64 n]).run=(condT n).out by kernel_rfl).trans (Tree.out_run _)
def regF (n:Int) (u:Bool):Bool:=cond (n == 0) true (cond u (cond (decide (0<n)) (decide (n≤15)) false) false)
def condF (n:Int):Bool:=cond (cond (decide (0≤n)) (decide (n≤9)) false) true (cond (decide (12≤n)) (decide (n≤15)) false)
def fitsF (n:Int):Bool:=cond (decide (-128≤n)) (decide (n≤127)) false
def baseF (b:Int):Bool:=cond (cond (decide (0≤b)) (decide (b≤15)) false) true (b == 17)
def scaleF (d:Int):Bool:=cond (d == 1) true (cond (d == 2) true (cond (d == 4) true (d == 8)))
def placeF (b c d:Int):Bool:=cond (c == 16) (cond (baseF b) (d == 0) false) (cond (baseF b) (cond (b != 17) (cond (decide (0≤c)) (cond (decide (c≤15)) (cond (c != 4) (scaleF d) false) false) false) false) false)
def registerS:Ab.Spec:=fun args=>match args with
 | [.int .i64 n,.bool u]=>.leaf (.bool (regF n u))
 | _=>.fail
theorem registerS_ok:Sound Tryz.prog 94 registerS:=by
 intro args out h
 unfold registerS at h
 split at h
 rotate_left
 ·cases h
 rename_i n u
 have h:=leaf_out h
 subst h
 refine pcall_fun' (cx:=cx94) (fn:=Tryz.f94) (cx0_ok rfl rfl) (by kernel_rfl) (by kernel_rfl) (by kernel_rfl) ((regT_eq n u).trans ?_)
 unfold regT regF
 cases (n == 0)
 ·cases u
  ·rfl
  ·cases decide (0<n) <;> rfl
 ·rfl
def conditionS:Ab.Spec:=fun args=>match args with
 | [.int .i64 n]=>.leaf (.bool (condF n))
 | _=>.fail
theorem conditionS_ok:Sound Tryz.prog 96 conditionS:=by
 intro args out h
 unfold conditionS at h
 split at h
 rotate_left
 ·cases h
 rename_i n
 have h:=leaf_out h
 subst h
 refine pcall_fun' (cx:=cx96) (fn:=Tryz.f96) (cx0_ok rfl rfl) (by kernel_rfl) (by kernel_rfl) (by kernel_rfl) ((condT_eq n).trans ?_)
 unfold condT condF
 cases decide (0≤n) <;> cases decide (n≤9) <;> cases decide (12≤n) <;> rfl
def tB (b:Bool):Tree V:=.leaf (.bool b)
def placeD (d:Int):Tree V:=.br (d == 1) (tB true) (.br (d == 2) (tB true) (.br (d == 4) (tB true) (tB (d == 8))))
def placeC (x:Bool) (b c d:Int):Tree V:=.br (c == 16) (.br x (tB (d == 0)) (tB false))
 (.br x (.br (b != 17) (.br (decide (0≤c)) (.br (decide (c≤15)) (.br (c != 4) (placeD d) (tB false)) (tB false)) (tB false)) (tB false)) (tB false))
def placeT (b c d:Int):Tree V:=.br (decide (0≤b)) (.br (decide (b≤15)) (placeC true b c d) (placeC (b == 17) b c d)) (placeC (b == 17) b c d)
theorem placeT_eq (nm:List UInt8) (a b c d n:Int):(dfun cx95 Tryz.f95 [.agg [.str nm,.int .i64 a,.int .i64 b,.int .i64 c,.int .i64 d,.int .i64 n]]).run=(placeT b c d).run:=
 (show (dfun cx95 Tryz.f95 [.agg [.str nm,.int .i64 a,.int .i64 b,.int .i64 c,.int .i64 d,.int .i64 n]]).run=(placeT b c d).out by kernel_rfl).trans (Tree.out_run _)
theorem placeC_run (x:Bool) (b c d:Int):(placeC x b c d).run=some (.bool (cond (c == 16) (cond x (d == 0) false) (cond x (cond (b != 17) (cond (decide (0≤c)) (cond (decide (c≤15)) (cond (c != 4) (scaleF d) false) false) false) false) false))):=by
 unfold placeC placeD scaleF tB
 cases (c == 16)
 ·cases x
  ·rfl
  ·cases (b != 17)
   ·rfl
   ·cases decide (0≤c)
    ·rfl
    ·cases decide (c≤15)
     ·rfl
     ·cases (c != 4)
      ·rfl
      ·cases (d == 1) <;> cases (d == 2) <;> cases (d == 4) <;> rfl
 ·cases x <;> rfl
theorem placeT_run (b c d:Int):(placeT b c d).run=some (.bool (placeF b c d)):=by
 unfold placeT placeF baseF
 cases decide (0≤b)
 ·exact placeC_run _ b c d
 ·cases decide (b≤15)
  ·exact placeC_run _ b c d
  ·exact placeC_run _ b c d
def placeS:Ab.Spec:=fun args=>match args with
 | [.agg [.str _,.int .i64 _,.int .i64 b,.int .i64 c,.int .i64 d,.int .i64 _]]=>.leaf (.bool (placeF b c d))
 | _=>.fail
theorem placeS_ok:Sound Tryz.prog 95 placeS:=by
 intro args out h
 unfold placeS at h
 split at h
 rotate_left
 ·cases h
 rename_i nm a b c d n
 have h:=leaf_out h
 subst h
 exact pcall_fun' (cx:=cx95) (fn:=Tryz.f95) (cx0_ok rfl rfl) (by kernel_rfl) (by kernel_rfl) (by kernel_rfl) ((placeT_eq nm a b c d n).trans (placeT_run b c d))
end Go.Amd
