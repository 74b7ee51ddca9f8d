/-
  A digit of a quotient, guessed from the highest digits and lowered till it is right, plainly. Conditions: none.
-/
import Derived.Test.YtbefgnmdliefjaaGreatDoorPk11
import Derived.Test.YtbefgnmdliefjaaGreatDoorPk12
import Derived.Test.YtbefgnmdliefjaaGreatDoorPk10
import Derived.Lib.BitFns
import Derived.Lib.Mul64
set_option linter.unusedVariables false
set_option linter.unusedSimpArgs false
namespace Go.Ra
theorem kn_pass {v1 v0 u2 u1 q r:Nat} (hv:0<v1) (e:q*v1+r=u2) (hc:q*v0≤4294967296*r+u1) (hle:(u2*4294967296+u1) / (v1*4294967296+v0)≤q) :
  q=(u2*4294967296+u1) / (v1*4294967296+v0):=by
 refine Nat.le_antisymm ?_ hle
 refine (Nat.le_div_iff_mul_le (by omega)).2 ?_
 rw [Nat.mul_add q (v1*4294967296) v0,← Nat.mul_assoc q v1 4294967296]
 omega
theorem kn_high {v1 v0 u2 u1 q r:Nat} (hv:0<v1) (hu:u2*4294967296+u1<(v1*4294967296+v0)*4294967296) (e:q*v1+r=u2) (hc:4294967296≤q∨4294967296*r+u1<q*v0) :
  (u2*4294967296+u1) / (v1*4294967296+v0)≤q - 1:=by
 have h:(u2*4294967296+u1) / (v1*4294967296+v0)<q:=by
  rcases hc with h | h
  ·refine Nat.lt_of_lt_of_le ((Nat.div_lt_iff_lt_mul (by omega)).2 ?_) h
   omega
  ·refine (Nat.div_lt_iff_lt_mul (by omega)).2 ?_
   rw [Nat.mul_add q (v1*4294967296) v0,← Nat.mul_assoc q v1 4294967296]
   clear hu
   generalize q*v1=p at e ⊢
   generalize q*v0=t at h ⊢
   omega
 clear hu hc e
 omega
theorem kn_stop {v1 v0 u2 u1 q r:Nat} (hv:0<v1) (h0:v0<4294967296) (e:q*v1+r=u2) (hr:4294967296≤r) (hq:q≤4294967296) (hle:(u2*4294967296+u1) / (v1*4294967296+v0)≤q) :
  q=(u2*4294967296+u1) / (v1*4294967296+v0):=by
 refine kn_pass hv e ?_ hle
 have h1:q*v0≤4294967296*v0:=Nat.mul_le_mul_right _ hq
 omega
theorem kn_first {v1 v0 u2 u1:Nat} (hv:2147483648≤v1) (h0:v0<4294967296) (h1:u1<4294967296) (hu:u2*4294967296+u1<(v1*4294967296+v0)*4294967296) :
  (u2*4294967296+u1) / (v1*4294967296+v0)≤u2 / v1∧u2 / v1≤4294967297:=by
 constructor
 ·refine (Nat.le_div_iff_mul_le (by omega)).2 ?_
  have h:=Nat.div_mul_le_self (u2*4294967296+u1) (v1*4294967296+v0)
  generalize (u2*4294967296+u1) / (v1*4294967296+v0)=q at h
  rw [Nat.mul_add q (v1*4294967296) v0,← Nat.mul_assoc q v1 4294967296] at h
  clear hu
  generalize q*v1=p at h ⊢
  generalize q*v0=t at h
  omega
 ·have h:=Nat.div_mul_le_self u2 v1
  generalize u2 / v1=q at h
  by_cases hq:q≤4294967297
  ·exact hq
  ·have h2:4294967298*v1≤q*v1:=Nat.mul_le_mul_right _ (by omega)
   omega
theorem kn_join {v x u0:Nat} (hv:0<v) :
  x / v*4294967296+(x % v*4294967296+u0) / v=(x*4294967296+u0) / v∧(x % v*4294967296+u0) % v=(x*4294967296+u0) % v:=by
 have h:=Nat.div_add_mod x v
 generalize x / v=q at h ⊢
 generalize x % v=r at h ⊢
 subst h
 have e:(v*q+r)*4294967296+u0=(r*4294967296+u0)+v*(q*4294967296):=by
  rw [Nat.add_mul (v*q) r 4294967296,Nat.mul_assoc v q 4294967296]
  generalize v*(q*4294967296)=t
  omega
 rw [e,Nat.add_mul_div_left (r*4294967296+u0) (q*4294967296) hv,Nat.add_mul_mod_self_left (r*4294967296+u0) v (q*4294967296)]
 exact ⟨Nat.add_comm _ _,rfl⟩
theorem kn_shift {x y:Nat} (s:Nat) (hy:0<y):(x*2 ^ s) / (y*2 ^ s)=x / y∧(x*2 ^ s) % (y*2 ^ s) / 2 ^ s=x % y:=by
 have hp:0<2 ^ s:=Nat.two_pow_pos s
 refine ⟨Nat.mul_div_mul_right _ _ hp,?_⟩
 rw [Nat.mul_mod_mul_right,Nat.mul_div_cancel _ hp]
end Go.Ra

namespace Go.Ra
open Go Go.Ab Go.Proofs
noncomputable def cx243:Cx:={ P:=Tryz.prog,n:=25,tab:=[],mtab:=[],refs:=[],keeps:=[0,2,4,8,14] }
def lenTab:List UInt8:=[0,1,2,2,3,3,3,3,4,4,4,4,4,4,4,4,5,5,5,5,5,5,5,5,5,5,5,5,5,5,5,5,6,6,6,6,6,6,6,6,6,6,6,6,6,6,6,6,6,6,6,6,6,6,6,6,6,6,6,6,6,6,6,6]++(List.replicate 64 7++List.replicate 128 8)
def tabI (i:Int):Int:=wi ((UInt8.toNat (lenTab.getD i.toNat 0):Nat):Int)
def b8 (x:Int):Int:=IntKind.wrap .u8 x
def lenD (n x:Int):Option V:=cond (inside (b8 x) 256) (some (.int .i64 (wi (n+tabI (b8 x))))) none
def lenC (n x:Int):Option V:=cond (decide (256≤x)) (lenD (wi (n+8)) (Int.fdiv x (2 ^ 8))) (lenD n x)
def lenB (n x:Int):Option V:=cond (decide (65536≤x)) (lenC (wi (n+16)) (Int.fdiv x (2 ^ 16))) (lenC n x)
def lenA (x:Int):Option V:=cond (decide (4294967296≤x)) (lenB 32 (Int.fdiv x (2 ^ 32))) (lenB 0 x)
theorem len_eq (x:Int):(dfun cx243 Tryz.f243 [.int .u64 x]).fin=lenA x:=by kernel_rfl
def blF (x:Int):Int:=(Lib.bitLen x.toNat:Nat)
theorem lenTab_ok:(List.range 256).all (fun n=>UInt8.toNat (lenTab.getD n 0) == Lib.bitLen n)=true:=by kernel_rfl
theorem wi_mid {x:Int} (h0 : -9223372036854775808≤x) (h1:x<9223372036854775808):wi x=x:=by
 show IntKind.wrap .i64 x=x
 exact wrap_i64 h0 h1
theorem lenD_eq {n:Int} {x:Nat} (h:x<256) (h0:0≤n) (h1:n≤64):lenD n (x:Int)=some (.int .i64 (n+(Lib.bitLen x:Nat))):=by
 unfold lenD tabI
 have e:b8 (x:Int)=x:=by
  show (x:Int) % 256=x
  omega
 have ht:=eq_of_beq (List.all_eq_true.1 lenTab_ok x (List.mem_range.2 h))
 have hl:=Lib.bitLen_le8 ⟨x,h⟩
 simp only at hl
 rw [e,inside_of (by omega) (by omega),cond_true,Int.toNat_natCast,ht,wi_mid (x:=((Lib.bitLen x:Nat):Int)) (by omega) (by omega),wi_mid (by omega) (by omega)]
theorem fdiv_cast (x k:Nat):Int.fdiv (x:Int) (2 ^ k)=((x / 2 ^ k:Nat):Int):=by
 rw [Int.fdiv_eq_ediv_of_nonneg _ (Int.le_of_lt (Int.pow_pos (by decide)))]
 simp
theorem lenC_eq {n:Int} {x:Nat} (h:x<65536) (h0:0≤n) (h1:n≤48):lenC n (x:Int)=some (.int .i64 (n+(Lib.bitLen x:Nat))):=by
 unfold lenC
 by_cases h2:256≤x
 ·rw [decide_eq_true (by omega),cond_true,fdiv_cast,wi_mid (by omega) (by omega),lenD_eq (by omega) (by omega) (by omega),Lib.bitLen_shift8 x h2 (by omega)]
  exact congrArg (fun y=>some (V.int .i64 y)) (by rw [show (2:Nat) ^ 8=256 from rfl]; omega)
 ·rw [decide_eq_false (by omega),cond_false,lenD_eq (by omega) h0 (by omega)]
theorem lenB_eq {n:Int} {x:Nat} (h:x<4294967296) (h0:0≤n) (h1:n≤32):lenB n (x:Int)=some (.int .i64 (n+(Lib.bitLen x:Nat))):=by
 unfold lenB
 by_cases h2:65536≤x
 ·rw [decide_eq_true (by omega),cond_true,fdiv_cast,wi_mid (by omega) (by omega),lenC_eq (by omega) (by omega) (by omega),Lib.bitLen_shift16 x h2 (by omega)]
  exact congrArg (fun y=>some (V.int .i64 y)) (by rw [show (2:Nat) ^ 16=65536 from rfl]; omega)
 ·rw [decide_eq_false (by omega),cond_false,lenC_eq (by omega) h0 (by omega)]
theorem lenA_eq {x:Nat} (h:x<18446744073709551616):lenA (x:Int)=some (.int .i64 (Lib.bitLen x:Nat)):=by
 unfold lenA
 by_cases h2:4294967296≤x
 ·rw [decide_eq_true (by omega),cond_true,fdiv_cast,lenB_eq (by omega) (by omega) (by omega),Lib.bitLen_shift32 x h2 (by omega)]
  exact congrArg (fun y=>some (V.int .i64 y)) (by rw [show (2:Nat) ^ 32=4294967296 from rfl]; omega)
 ·rw [decide_eq_false (by omega),cond_false,lenB_eq (by omega) (by omega) (by omega)]
  exact congrArg (fun y=>some (V.int .i64 y)) (by omega)
def lenS:Ab.Spec:=fun args=>match args with
 | [.int .u64 x]=>.req (rng64 x) (.leaf (.int .i64 (blF x)))
 | _=>.fail
theorem lenS_ok:Sound Tryz.prog 243 lenS:=by
 intro args out h
 unfold lenS at h
 split at h
 rotate_left
 ·cases h
 rename_i x
 obtain ⟨h1,h⟩:=req_run h
 cases h
 simp only [rng64,Bool.and_eq_true,decide_eq_true_eq] at h1
 obtain ⟨m,rfl⟩:=Int.eq_ofNat_of_zero_le h1.1
 refine pcall_fun' (cx:=cx243) (fn:=Tryz.f243) (cx0_ok rfl rfl) (by kernel_rfl) (by kernel_rfl) (by kernel_rfl) ?_
 rw [← Tree.fin_run,len_eq,lenA_eq (by omega)]
 rfl
theorem aux_bd:∀ (f x:Nat),x<2 ^ f→x<2 ^ Lib.bitLenAux f x∧(x ≠ 0→2 ^ Lib.bitLenAux f x≤2*x)
 | 0,x,h=>⟨h,fun hx=>by simp at h; omega⟩
 | f+1,x,h=>by
  unfold Lib.bitLenAux
  split
  ·rename_i h0
   exact ⟨by rw [h0]; decide,fun hx=>absurd h0 hx⟩
  ·rename_i h0
   have h2:x / 2<2 ^ f:=by
    rw [Nat.pow_succ] at h
    omega
   obtain ⟨a,b⟩:=aux_bd f (x / 2) h2
   rw [Nat.add_comm,Nat.pow_succ]
   refine ⟨by omega,fun _=>?_⟩
   by_cases hx:x / 2=0
   ·have:x=1:=by omega
    subst this
    rw [hx]
    cases f with
    | zero=>decide
    | succ f =>
     show 2 ^ Lib.bitLenAux (f+1) 0*2≤_
     unfold Lib.bitLenAux
     simp
   ·have:=b hx
    omega
theorem bl_bd {x:Nat} (h:x<2 ^ 64) (h0:x ≠ 0):x<2 ^ Lib.bitLen x∧2 ^ Lib.bitLen x≤2*x∧Lib.bitLen x≤64:=by
 obtain ⟨a,b⟩:=aux_bd 64 x h
 exact ⟨a,b h0,Lib.bitLen_le x 64 (Nat.le_refl _) h⟩
noncomputable def cx201:Cx:={ P:=Tryz.prog,n:=6,tab:=[(243,lenS)],mtab:=[],refs:=[],keeps:=[0,2] }
def lzF (x:Int):Int:=wi (64 - blF x)
theorem lz_eq (x:Int):(dfun cx201 Tryz.f201 [.int .u64 x]).fin=cond (rng64 x) (some (.int .i64 (lzF x))) none:=by kernel_rfl
def lzS:Ab.Spec:=fun args=>match args with
 | [.int .u64 x]=>.req (rng64 x) (.leaf (.int .i64 (lzF x)))
 | _=>.fail
theorem lzS_ok:Sound Tryz.prog 201 lzS:=by
 intro args out h
 unfold lzS at h
 split at h
 rotate_left
 ·cases h
 rename_i x
 obtain ⟨h1,h⟩:=req_run h
 cases h
 refine pcall_fun' (cx:=cx201) (fn:=Tryz.f201) (cx1_ok (ok1 lenS_ok) (.nil _) rfl rfl) (by kernel_rfl) (by kernel_rfl) (by kernel_rfl) ?_
 rw [← Tree.fin_run,lz_eq,h1]
 rfl
end Go.Ra

namespace Go.Ra
open Go Go.Ab Go.Proofs
noncomputable def cx151:Cx:={ P:=Tryz.prog,n:=135,tab:=[(201,lzS)],mtab:=[],refs:=[],keeps:=[0,1,2,6,7,8,9,10,11,12,13,14,15,16,17,18,20,24,27,78,85,113,120] }
noncomputable abbrev Bdv:Code:=bodyOf Tryz.f151
def dvHead (h l y:Int):Tree St:=
 (.br (y == 0) .fail (.br (decide (y≤h)) .fail (.br (h == 0) (.br (!decide (y=0)) (.br (!decide (y=0)) (.leaf (.ret,[(0,(.int .u64 h)),(1,(.int .u64 l)),(2,(.int .u64 y)),(6,(.int .u64 (IntKind.wrap IntKind.u64 (Int.tdiv l y)))),(7,(.int .u64 (Int.tmod l y))),(20,(.bool false)),(24,(.bool false)),(27,(.bool true))],[])) .fail) .fail) (.br (Go.Ra.rng64 y) (.leaf (.normal,[(0,(.int .u64 h)),(1,(.int .u64 l)),(2,(.int .u64 y)),(6,(.int .u64 0)),(7,(.int .u64 0)),(8,(.int .u64 (IntKind.wrap IntKind.u64 (Go.Ra.lzF y)))),(20,(.bool false)),(24,(.bool false)),(27,(.bool false))],[])) .fail))))
theorem dvHead_eq (h l y:Int):(dcode cx151 (headN 4 Bdv) [(0,.int .u64 h),(1,.int .u64 l),(2,.int .u64 y)] []).run=(dvHead h l y).run:=
 (show (dcode cx151 (headN 4 Bdv) [(0,.int .u64 h),(1,.int .u64 l),(2,.int .u64 y)] []).run=(dvHead h l y).out by kernel_rfl).trans (Tree.out_run _)
def dvNum (h l y s:Int):Tree St:=
 (.br (decide (0≤s)) (.br (decide (0≤s)) (.br (decide (0≤IntKind.wrap IntKind.u64 (64 - s))) (.br (decide (0≤s)) (.br (!decide (Int.fdiv (IntKind.wrap IntKind.u64 (y*2 ^ Min.min (Int.toNat s) 64)) (2 ^ 32)=0)) (.leaf (.normal,[(0,(.int .u64 h)),(1,(.int .u64 l)),(2,(.int .u64 (IntKind.wrap IntKind.u64 (y*2 ^ Min.min (Int.toNat s) 64)))),(8,(.int .u64 s)),(9,(.int .u64 (Int.fdiv (IntKind.wrap IntKind.u64 (y*2 ^ Min.min (Int.toNat s) 64)) (2 ^ 32)))),(10,(.int .u64 (IntKind.wrap IntKind.u64 ↑(BitVec.toNat (BitVec.ofInt 64 (IntKind.wrap IntKind.u64 (y*2 ^ Min.min (Int.toNat s) 64)) &&& BitVec.ofInt 64 4294967295))))),(11,(.int .u64 (IntKind.wrap IntKind.u64 ↑(BitVec.toNat (BitVec.ofInt 64 (IntKind.wrap IntKind.u64 (h*2 ^ Min.min (Int.toNat s) 64)) ||| BitVec.ofInt 64 (Int.fdiv l (2 ^ Min.min (Int.toNat (IntKind.wrap IntKind.u64 (64 - s))) 64))))))),(12,(.int .u64 (IntKind.wrap IntKind.u64 (l*2 ^ Min.min (Int.toNat s) 64)))),(13,(.int .u64 (Int.fdiv (IntKind.wrap IntKind.u64 (l*2 ^ Min.min (Int.toNat s) 64)) (2 ^ 32)))),(14,(.int .u64 (IntKind.wrap IntKind.u64 ↑(BitVec.toNat (BitVec.ofInt 64 (IntKind.wrap IntKind.u64 (l*2 ^ Min.min (Int.toNat s) 64)) &&& BitVec.ofInt 64 4294967295))))),(15,(.int .u64 (IntKind.wrap IntKind.u64 (Int.tdiv (IntKind.wrap IntKind.u64 ↑(BitVec.toNat (BitVec.ofInt 64 (IntKind.wrap IntKind.u64 (h*2 ^ Min.min (Int.toNat s) 64)) ||| BitVec.ofInt 64 (Int.fdiv l (2 ^ Min.min (Int.toNat (IntKind.wrap IntKind.u64 (64 - s))) 64))))) (Int.fdiv (IntKind.wrap IntKind.u64 (y*2 ^ Min.min (Int.toNat s) 64)) (2 ^ 32)))))),(16,(.int .u64 (IntKind.wrap IntKind.u64 (IntKind.wrap IntKind.u64 ↑(BitVec.toNat (BitVec.ofInt 64 (IntKind.wrap IntKind.u64 (h*2 ^ Min.min (Int.toNat s) 64)) ||| BitVec.ofInt 64 (Int.fdiv l (2 ^ Min.min (Int.toNat (IntKind.wrap IntKind.u64 (64 - s))) 64)))) - IntKind.wrap IntKind.u64 (IntKind.wrap IntKind.u64 (Int.tdiv (IntKind.wrap IntKind.u64 ↑(BitVec.toNat (BitVec.ofInt 64 (IntKind.wrap IntKind.u64 (h*2 ^ Min.min (Int.toNat s) 64)) ||| BitVec.ofInt 64 (Int.fdiv l (2 ^ Min.min (Int.toNat (IntKind.wrap IntKind.u64 (64 - s))) 64))))) (Int.fdiv (IntKind.wrap IntKind.u64 (y*2 ^ Min.min (Int.toNat s) 64)) (2 ^ 32)))*Int.fdiv (IntKind.wrap IntKind.u64 (y*2 ^ Min.min (Int.toNat s) 64)) (2 ^ 32))))))],[])) .fail) .fail) .fail) .fail) .fail)
theorem dvNum_eq (h l y s:Int):(dcode cx151 (headN 8 (tailN 4 Bdv)) [(0,.int .u64 h),(1,.int .u64 l),(2,.int .u64 y),(8,.int .u64 s)] []).run=(dvNum h l y s).run:=
 (show (dcode cx151 (headN 8 (tailN 4 Bdv)) [(0,.int .u64 h),(1,.int .u64 l),(2,.int .u64 y),(8,.int .u64 s)] []).run=(dvNum h l y s).out by kernel_rfl).trans (Tree.out_run _)
def dvMid (q v v1 v0 u2 u1 u0 s:Int):Tree St:=
 (.br (!decide (v1=0)) (.leaf (.normal,[(2,(.int .u64 v)),(8,(.int .u64 s)),(9,(.int .u64 v1)),(10,(.int .u64 v0)),(11,(.int .u64 u2)),(13,(.int .u64 u1)),(14,(.int .u64 u0)),(15,(.int .u64 q)),(16,(.int .u64 (IntKind.wrap IntKind.u64 (IntKind.wrap IntKind.u64 (IntKind.wrap IntKind.u64 (IntKind.wrap IntKind.u64 (u2*4294967296)+u1) - IntKind.wrap IntKind.u64 (q*v)) - IntKind.wrap IntKind.u64 (IntKind.wrap IntKind.u64 (Int.tdiv (IntKind.wrap IntKind.u64 (IntKind.wrap IntKind.u64 (IntKind.wrap IntKind.u64 (u2*4294967296)+u1) - IntKind.wrap IntKind.u64 (q*v))) v1)*v1))))),(17,(.int .u64 (IntKind.wrap IntKind.u64 (IntKind.wrap IntKind.u64 (IntKind.wrap IntKind.u64 (u2*4294967296)+u1) - IntKind.wrap IntKind.u64 (q*v))))),(18,(.int .u64 (IntKind.wrap IntKind.u64 (Int.tdiv (IntKind.wrap IntKind.u64 (IntKind.wrap IntKind.u64 (IntKind.wrap IntKind.u64 (u2*4294967296)+u1) - IntKind.wrap IntKind.u64 (q*v))) v1))))],[])) .fail)
theorem dvMid_eq (q v v1 v0 u2 u1 u0 s:Int):(dcode cx151 (headN 2 (tailN 14 Bdv)) [(2,.int .u64 v),(8,.int .u64 s),(9,.int .u64 v1),(10,.int .u64 v0),(11,.int .u64 u2),(13,.int .u64 u1),(14,.int .u64 u0),(15,.int .u64 q)] []).run=(dvMid q v v1 v0 u2 u1 u0 s).run:=
 (show (dcode cx151 (headN 2 (tailN 14 Bdv)) [(2,.int .u64 v),(8,.int .u64 s),(9,.int .u64 v1),(10,.int .u64 v0),(11,.int .u64 u2),(13,.int .u64 u1),(14,.int .u64 u0),(15,.int .u64 q)] []).run=(dvMid q v v1 v0 u2 u1 u0 s).out by kernel_rfl).trans (Tree.out_run _)
def dvEnd (q1 q0 v u21 u0 s:Int):Tree St:=
 (.br (decide (0≤s)) (.leaf (.ret,[(2,(.int .u64 v)),(6,(.int .u64 (IntKind.wrap IntKind.u64 (IntKind.wrap IntKind.u64 (q1*4294967296)+q0)))),(7,(.int .u64 (Int.fdiv (IntKind.wrap IntKind.u64 (IntKind.wrap IntKind.u64 (IntKind.wrap IntKind.u64 (u21*4294967296)+u0) - IntKind.wrap IntKind.u64 (q0*v))) (2 ^ Min.min (Int.toNat s) 64)))),(8,(.int .u64 s)),(14,(.int .u64 u0)),(15,(.int .u64 q1)),(17,(.int .u64 u21)),(18,(.int .u64 q0))],[])) .fail)
theorem dvEnd_eq (q1 q0 v u21 u0 s:Int):(dcode cx151 (tailN 18 Bdv) [(2,.int .u64 v),(8,.int .u64 s),(14,.int .u64 u0),(15,.int .u64 q1),(17,.int .u64 u21),(18,.int .u64 q0)] []).run=(dvEnd q1 q0 v u21 u0 s).run:=
 (show (dcode cx151 (tailN 18 Bdv) [(2,.int .u64 v),(8,.int .u64 s),(14,.int .u64 u0),(15,.int .u64 q1),(17,.int .u64 u21),(18,.int .u64 q0)] []).run=(dvEnd q1 q0 v u21 u0 s).out by kernel_rfl).trans (Tree.out_run _)
def KnI (v1 v0 u2 u1:Nat) (p:Nat × Nat):Prop:=p.1*v1+p.2=u2∧(u2*4294967296+u1) / (v1*4294967296+v0)≤p.1∧p.1≤4294967297∧p.2<4294967296
def rdD (ex:Nat) (st:Int→Int→T) (a b:Nat) (q r v1:Int):Tree St:=
 .br (decide (4294967296≤wu (r+v1))) (.leaf (.exit ex,st (wu (q - 1)) (wu (r+v1))++[(a,.bool true),(b,.bool true)],[])) (.leaf (.normal,st (wu (q - 1)) (wu (r+v1))++[(a,.bool true),(b,.bool false)],[]))
def rdV (ex:Nat) (st:Int→Int→T) (a b:Nat) (q v0 r u1 v1:Int):Tree St:=
 .br (decide (4294967296≤q)) (rdD ex st a b q r v1) (.br (decide (wu (wu (4294967296*r)+u1)<wu (q*v0))) (rdD ex st a b q r v1) (.leaf (.exit ex,st q r++[(a,.bool false)],[])))
theorem wu_cast {x:Nat} (h:x<18446744073709551616):wu (x:Int)=(x:Int):=by
 show (x:Int) % 18446744073709551616=_
 omega
theorem sq_lt {a b:Nat} (ha:a<4294967296) (hb:b<4294967296):a*b<18446744073709551616:=by
 have h1:a*b≤4294967295*b:=Nat.mul_le_mul_right _ (by omega)
 generalize a*b=p at h1 ⊢
 omega
set_option maxRecDepth 8000 in
theorem dv_loop {P:Program} {n:Nat} {cx:Cx} (hP:cx.P=P) (hn:cx.n=n) (hT:CxOk cx) {body:Code} {Q:AEx→T→List O→Prop} {st:Int→Int→T} {ex a b:Nat} {v1 v0 u2 u1:Nat}
  (hv:2147483648≤v1) (hv1:v1<4294967296) (h0:v0<4294967296) (h1:u1<4294967296) (hu:u2*4294967296+u1<(v1*4294967296+v0)*4294967296)
  (hst:∀ q r l,TLe (st q r++l) (st q r)) (hr:∀ q r:Int,(dcode cx body (st q r) []).run=(rdV ex st a b q v0 r u1 v1).run)
  (hpost:∀ r l,Q (.exit ex) (st (((u2*4294967296+u1) / (v1*4294967296+v0):Nat):Int) r++l) []) :
  AWP P n (.loop body) Q (st ((u2 / v1:Nat):Int) ((u2 % v1:Nat):Int)) []:=by
 obtain ⟨g1,g2⟩:=kn_first hv h0 h1 hu
 have e0:u2 / v1*v1+u2 % v1=u2:=by rw [Nat.mul_comm]; exact Nat.div_add_mod _ _
 have r0:u2 % v1<v1:=Nat.mod_lt _ (by omega)
 refine AWP_loop (α:={ p:Nat × Nat // KnI v1 v0 u2 u1 p }) (fun p=>(st (p.1.1:Int) (p.1.2:Int),[])) (fun p=>4294967296 - p.1.2) (fun p=>AWP_code hP hn hT body _ _ _ ?_) ⟨(u2 / v1,u2 % v1),e0,g1,g2,by show u2 % v1<_; omega⟩
 obtain ⟨⟨q,r⟩,i1,i2,i3,i4⟩:=p
 simp only at i1 i2 i3 i4
 refine Tree.all_run_eq (hr q r) ?_
 have er:wu ((r:Int)+v1)=((r+v1:Nat):Int):=by rw [← Int.natCast_add]; exact wu_cast (by omega)
 have down:(4294967296≤q∨4294967296*r+u1<q*v0)→(rdD ex st a b q r v1).all (fun s=>(match s.1 with | .normal=>∃ j:{ p:Nat × Nat // KnI v1 v0 u2 u1 p },4294967296 - j.1.2<4294967296 - r∧TLe s.2.1 (st (j.1.1:Int) (j.1.2:Int))∧s.2.2=[] | e=>Q e s.2.1 s.2.2)):=by
  intro hc
  have g3:=kn_high (by omega) hu i1 hc
  have hq:1≤q:=by
   rcases hc with h | h
   ·omega
   ·cases q with
    | zero=>simp at h
    | succ q=>omega
  have e' : (q - 1)*v1+(r+v1)=u2:=by
   obtain ⟨p,rfl⟩:∃ p,q=p+1:=⟨q - 1,by omega⟩
   rw [Nat.add_mul] at i1
   simp only [Nat.add_sub_cancel]
   omega
  have eq:wu ((q:Int) - 1)=((q - 1:Nat):Int):=by
   rw [show (q:Int) - 1=((q - 1:Nat):Int) by omega]
   exact wu_cast (by omega)
  unfold rdD
  rw [er,eq]
  refine ⟨fun h=>?_,fun h=>?_⟩
  ·have h:(4294967296:Int)≤((r+v1:Nat):Int):=of_decide_eq_true h
   have e:=kn_stop (by omega) h0 e' (by omega) (by omega) g3
   show Q _ _ _
   rw [e]
   exact hpost _ _
  ·have h:¬ (4294967296:Int)≤((r+v1:Nat):Int):=of_decide_eq_false h
   exact ⟨⟨(q - 1,r+v1),e',g3,by show q - 1≤_; omega,by show r+v1<_; omega⟩,by show 4294967296 - (r+v1)<4294967296 - r; omega,hst _ _ _,rfl⟩
 refine ⟨fun h=>down (.inl ?_),fun h=>⟨fun h2=>down (.inr ?_),fun h2=>?_⟩⟩
 ·have h:(4294967296:Int)≤(q:Int):=of_decide_eq_true h
  omega
 ·have h:¬ (4294967296:Int)≤(q:Int):=of_decide_eq_false h
  have h2:wu (wu (4294967296*(r:Int))+u1)<wu ((q:Int)*v0):=of_decide_eq_true h2
  have hp:=sq_lt (a:=q) (b:=v0) (by omega) h0
  rw [← Int.natCast_mul,wu_cast hp,show (4294967296*(r:Int))=((4294967296*r:Nat):Int) by omega,wu_cast (by omega),← Int.natCast_add,wu_cast (by omega)] at h2
  omega
 ·have h:¬ (4294967296:Int)≤(q:Int):=of_decide_eq_false h
  have h2:¬ wu (wu (4294967296*(r:Int))+u1)<wu ((q:Int)*v0):=of_decide_eq_false h2
  have hp:=sq_lt (a:=q) (b:=v0) (by omega) h0
  rw [← Int.natCast_mul,wu_cast hp,show (4294967296*(r:Int))=((4294967296*r:Nat):Int) by omega,wu_cast (by omega),← Int.natCast_add,wu_cast (by omega)] at h2
  have e:=kn_pass (by omega) i1 (by omega) i2
  show Q _ _ _
  rw [e]
  exact hpost _ _
theorem dv_rd1 (v s v1 v0 u2 u1 u0:Int) (q r:Int):(dcode cx151 (cin (cin (c1 (tailN 13 Bdv)))) [(2,.int .u64 v),(8,.int .u64 s),(9,.int .u64 v1),(10,.int .u64 v0),(11,.int .u64 u2),(13,.int .u64 u1),(14,.int .u64 u0),(15,.int .u64 q),(16,.int .u64 r)] []).run =
  (rdV 0 (fun q r=>[(2,.int .u64 v),(8,.int .u64 s),(9,.int .u64 v1),(10,.int .u64 v0),(11,.int .u64 u2),(13,.int .u64 u1),(14,.int .u64 u0),(15,.int .u64 q),(16,.int .u64 r)]) 78 85 q v0 r u1 v1).run:=
 (show _=(rdV 0 _ 78 85 q v0 r u1 v1).out by kernel_rfl).trans (Tree.out_run _)
theorem dv_rd2 (v s v1 v0 u0 q1 u21:Int) (q r:Int):(dcode cx151 (cin (cin (c1 (tailN 17 Bdv)))) [(2,.int .u64 v),(8,.int .u64 s),(9,.int .u64 v1),(10,.int .u64 v0),(14,.int .u64 u0),(15,.int .u64 q1),(16,.int .u64 r),(17,.int .u64 u21),(18,.int .u64 q)] []).run =
  (rdV 2 (fun q r=>[(2,.int .u64 v),(8,.int .u64 s),(9,.int .u64 v1),(10,.int .u64 v0),(14,.int .u64 u0),(15,.int .u64 q1),(16,.int .u64 r),(17,.int .u64 u21),(18,.int .u64 q)]) 113 120 q v0 r u0 v1).run:=
 (show _=(rdV 2 _ 113 120 q v0 r u0 v1).out by kernel_rfl).trans (Tree.out_run _)
end Go.Ra

namespace Go.Ra
open Go Go.Ab Go.Proofs
def dvS (y:Nat):Nat:=64 - Lib.bitLen y
theorem dvS_bd {y:Nat} (h:y<2 ^ 64) (h0:y ≠ 0):dvS y≤63∧9223372036854775808≤y*2 ^ dvS y∧y*2 ^ dvS y<18446744073709551616:=by
 obtain ⟨a,b,c⟩:=bl_bd h h0
 unfold dvS
 generalize Lib.bitLen y=k at a b c
 have hk:k ≠ 0:=by
  intro hk
  subst hk
  simp at a
  omega
 have e:2 ^ k*2 ^ (64 - k)=18446744073709551616:=by
  rw [← Nat.pow_add,Nat.add_sub_cancel' c]
 have hp:0<2 ^ (64 - k):=Nat.two_pow_pos _
 generalize 2 ^ k=p at a b e
 generalize 2 ^ (64 - k)=t at e hp
 refine ⟨by omega,?_,?_⟩
 ·have h2:p*t≤2*y*t:=Nat.mul_le_mul_right _ b
  rw [Nat.mul_assoc] at h2
  generalize y*t=z at h2
  omega
 ·have h2:=Nat.mul_lt_mul_of_pos_right a hp
  rw [e] at h2
  exact h2
theorem sF_eq {y:Nat} (h:y<2 ^ 64):wu (lzF (y:Int))=(dvS y:Nat):=by
 unfold lzF blF dvS
 have c:=Lib.bitLen_le y 64 (Nat.le_refl _) h
 rw [Int.toNat_natCast,wi_mid (by omega) (by omega)]
 rw [show (64:Int) - ((Lib.bitLen y:Nat):Int)=((64 - Lib.bitLen y:Nat):Int) by omega]
 exact wu_cast (by omega)
theorem min_cast {s:Nat} (h:s≤64):Min.min (Int.toNat (s:Int)) 64=s:=by
 rw [Int.toNat_natCast]
 exact Nat.min_eq_left h
theorem shl_cast {x s:Nat} (h:s≤64):wu ((x:Int)*2 ^ Min.min (Int.toNat (s:Int)) 64)=((x*2 ^ s % 18446744073709551616:Nat):Int):=by
 rw [min_cast h,show (x:Int)*2 ^ s=((x*2 ^ s:Nat):Int) by simp]
 rfl
theorem lo_cast (x:Nat):wu ((BitVec.toNat (BitVec.ofInt 64 (x:Int) &&& BitVec.ofInt 64 4294967295):Nat):Int)=((x % 4294967296:Nat):Int):=by
 have e1:(BitVec.ofInt 64 (x:Int)).toNat=x % 18446744073709551616:=by
  rw [BitVec.toNat_ofInt]
  omega
 rw [BitVec.toNat_and,e1,show (BitVec.ofInt 64 4294967295).toNat=2 ^ 32 - 1 from by decide,Nat.and_two_pow_sub_one_eq_mod]
 show ((x % 18446744073709551616 % 2 ^ 32:Nat):Int) % 18446744073709551616=_
 omega
theorem or_cast {x y:Nat} (hx:x<18446744073709551616) (hy:y<18446744073709551616):wu ((BitVec.toNat (BitVec.ofInt 64 (x:Int) ||| BitVec.ofInt 64 (y:Int)):Nat):Int)=((x ||| y:Nat):Int):=by
 have e:∀ z:Nat,z<18446744073709551616→(BitVec.ofInt 64 (z:Int)).toNat=z:=fun z hz=>by
  rw [BitVec.toNat_ofInt]
  omega
 rw [BitVec.toNat_or,e x hx,e y hy]
 exact wu_cast (Nat.or_lt_two_pow (n:=64) hx hy)
def dvU2 (h l s:Nat):Nat:=h*2 ^ s+l / 2 ^ (64 - s)
def dvU10 (l s:Nat):Nat:=l*2 ^ s % 18446744073709551616
theorem dvU_eq {h l s:Nat} (hs:s≤64):dvU2 h l s*18446744073709551616+dvU10 l s=(h*18446744073709551616+l)*2 ^ s:=by
 unfold dvU2 dvU10
 have e:2 ^ (64 - s)*2 ^ s=18446744073709551616:=by
  rw [← Nat.pow_add,Nat.sub_add_cancel hs]
 have hp:0<2 ^ s:=Nat.two_pow_pos _
 have e2:l / 2 ^ (64 - s)=l*2 ^ s / 18446744073709551616:=by
  rw [← e,Nat.mul_div_mul_right _ _ hp]
 have e3:=Nat.div_add_mod (l*2 ^ s) 18446744073709551616
 rw [e2,Nat.add_mul (h*2 ^ s),Nat.add_mul (h*18446744073709551616),Nat.mul_right_comm h]
 generalize l*2 ^ s=x at e3 ⊢
 generalize h*2 ^ s=z
 omega
theorem u2_cast {h l y:Nat} (hy:y<2 ^ 64) (h0:y ≠ 0) (hh:h<y) (hl:l<18446744073709551616) :
  wu ((BitVec.toNat (BitVec.ofInt 64 (wu ((h:Int)*2 ^ Min.min (Int.toNat (dvS y:Nat)) 64)) ||| BitVec.ofInt 64 (Int.fdiv (l:Int) (2 ^ Min.min (Int.toNat (wu (64 - (dvS y:Nat)))) 64))):Nat):Int)=((dvU2 h l (dvS y):Nat):Int)∧dvU2 h l (dvS y)<18446744073709551616:=by
 obtain ⟨b1,b2,b3⟩:=dvS_bd hy h0
 have hlt:h*2 ^ dvS y+2 ^ dvS y≤y*2 ^ dvS y:=by
  have:=Nat.mul_le_mul_right (2 ^ dvS y) (show h+1≤y from hh)
  rw [Nat.add_mul,Nat.one_mul] at this
  exact this
 have hp:0<2 ^ dvS y:=Nat.two_pow_pos _
 have e64:wu (64 - ((dvS y:Nat):Int))=((64 - dvS y:Nat):Int):=by
  rw [show (64:Int) - ((dvS y:Nat):Int)=((64 - dvS y:Nat):Int) by omega]
  exact wu_cast (by omega)
 have hd:l / 2 ^ (64 - dvS y)<2 ^ dvS y:=by
  refine (Nat.div_lt_iff_lt_mul (Nat.two_pow_pos _)).2 ?_
  rw [← Nat.pow_add,Nat.add_sub_cancel' (by omega)]
  exact hl
 have e1:=shl_cast (x:=h) (s:=dvS y) (by omega)
 rw [Nat.mod_eq_of_lt (by omega)] at e1
 rw [e1,e64,min_cast (by omega),fdiv_cast,or_cast (by omega) (by omega)]
 unfold dvU2
 generalize dvS y=s at *
 refine ⟨?_,by omega⟩
 rw [Nat.mul_comm h,← Nat.two_pow_add_eq_or_of_lt hd]
theorem tdiv_cast (x y:Nat):Int.tdiv (x:Int) (y:Int)=((x / y:Nat):Int):=by
 rw [Int.tdiv_eq_ediv_of_nonneg (by omega)]
 rfl
theorem wu_mod (x:Int):wu x=x % 18446744073709551616:=rfl
theorem rest_cast {x v:Nat} (hx:x<18446744073709551616):wu ((x:Int) - wu (((x / v:Nat):Int)*(v:Int)))=((x % v:Nat):Int):=by
 have h:=Nat.div_add_mod x v
 rw [Nat.mul_comm] at h
 rw [← Int.natCast_mul]
 generalize x / v*v=p at h ⊢
 rw [wu_cast (by omega),show (x:Int) - (p:Int)=((x % v:Nat):Int) by omega]
 exact wu_cast (by have:=Nat.mod_le x v; omega)
theorem rest2_cast {a b v:Nat} (hv:0<v) (hv2:v≤18446744073709551616):wu (wu (wu ((a:Int)*4294967296)+(b:Int)) - wu ((((a*4294967296+b) / v:Nat):Int)*(v:Int)))=(((a*4294967296+b) % v:Nat):Int):=by
 have h:=Nat.div_add_mod (a*4294967296+b) v
 have h2:=Nat.mod_lt (a*4294967296+b) hv
 rw [Nat.mul_comm] at h
 rw [← Int.natCast_mul]
 generalize (a*4294967296+b) / v*v=p at h ⊢
 generalize (a*4294967296+b) % v=r at h h2 ⊢
 rw [wu_mod,wu_mod,wu_mod,wu_mod]
 omega
def dq128 (h l y:Int):Int:=(h*18446744073709551616+l) / y
def dr128 (h l y:Int):Int:=(h*18446744073709551616+l) % y
theorem dq_cast (h l y:Nat):dq128 h l y=(((h*18446744073709551616+l) / y:Nat):Int):=by
 unfold dq128
 simp
theorem dr_cast (h l y:Nat):dr128 h l y=(((h*18446744073709551616+l) % y:Nat):Int):=by
 unfold dr128
 simp
theorem dq_lt {h l y:Nat} (hh:h<y) (hl:l<18446744073709551616):(h*18446744073709551616+l) / y<18446744073709551616:=by
 refine (Nat.div_lt_iff_lt_mul (by omega)).2 ?_
 have:(h+1)*18446744073709551616≤y*18446744073709551616:=Nat.mul_le_mul_right _ hh
 rw [Nat.mul_comm 18446744073709551616 y]
 omega
end Go.Ra

namespace Go.Ra
open Go Go.Ab Go.Proofs
noncomputable def cx29:Cx:={ P:=Tryz.prog,n:=17,tab:=[],mtab:=[],refs:=[],keeps:=[0,2] }
noncomputable def sizedS:Ab.Spec:=fun args=>.req (Nat.ble args.length Tryz.f29.ntmps) (dfun cx29 Tryz.f29 args)
theorem sizedS_ok:Sound Tryz.prog 29 sizedS:=sound_fun (cx:=cx29) (fn:=Tryz.f29) (cx0_ok rfl rfl) (by kernel_rfl) (by kernel_rfl)
noncomputable def cx145:Cx:={ P:=Tryz.prog,n:=41,tab:=[(29,sizedS)],mtab:=[(30,noneM),(31,mayM),(33,getM)],refs:=[],keeps:=[0,1,2,6,7,8,9,10,14,27],fuel:=9 }
noncomputable def cx13:Cx:={ P:=Tryz.prog,n:=40,tab:=[(29,sizedS)],mtab:=[(30,noneM),(31,mayM),(32,putM)],refs:=[],keeps:=[0,1,2,3,8,9,10,14,24,25,26],fuel:=9 }
def adr (x:Int) (i:Nat):Int:=IntKind.wrap .u64 (x+IntKind.wrap .u64 (i:Int))
def ldS (v b:Int):Int:=IntKind.wrap .u64 (((BitVec.ofInt 64 (IntKind.wrap .u64 (v*2 ^ 8)) ||| BitVec.ofInt 64 (IntKind.wrap .u64 b)).toNat:Nat):Int)
def usable (x:Int):Bool:=rng64 x && isPg (pgF x)
def ldGo (a b c d e:List Int) (x:Int):Nat→Int→Option Res
 | 0,v=>some (.ok (.tup [.int .u64 v,.int .i64 0]) (memO a b c d e))
 | m+1,v=>cond (true && lens5 a b c d e) (cond (usable (adr x m)) (ldGo a b c d e x m (ldS v (byteF a b c d e (adr x m)))) none) none
def ldX (n:Nat) (a b c d e:List Int) (x:Int):Option Res:=cond (true && lens5 a b c d e) (cond (rng64 x && true) (cond (!mayB x (n:Int) 4) (some (.ok (.tup [.int .u64 0,.int .i64 21]) (memO a b c d e))) (ldGo a b c d e x n 0)) none) none
noncomputable def ldE (n:Nat) (a b c d e:List Int) (x:Int):Option Res:=(mfun cx145 Tryz.f145 [.ptr 0 0,.int .u64 x,.int .i64 (n:Int)] (memO a b c d e)).fin
def byS (y:Int) (i:Nat):Int:=IntKind.wrap .u8 (Int.fdiv y (2 ^ (8*i)))
def stGo (x y:Int):Nat→Nat→List Int→List Int→List Int→List Int→List Int→Option Res
 | 0,_,a,b,c,d,e=>some (.ok (.int .i64 0) (memO a b c d e))
 | m+1,i,a,b,c,d,e=>cond (true && lens5 a b c d e) (cond (usable (adr x i)) (stGo x y m (i+1) (setF 1 (adr x i) (byS y i) a) (setF 2 (adr x i) (byS y i) b) (setF 16 (adr x i) (byS y i) c) (setF 17 (adr x i) (byS y i) d) (setF 32 (adr x i) (byS y i) e)) none) none
def stX (n:Nat) (a b c d e:List Int) (x y:Int):Option Res:=cond (true && lens5 a b c d e) (cond (rng64 x && true) (cond (!mayB x (n:Int) 2) (some (.ok (.int .i64 21) (memO a b c d e))) (stGo x y n 0 a b c d e)) none) none
noncomputable def stE (n:Nat) (a b c d e:List Int) (x y:Int):Option Res:=(mfun cx13 Tryz.f13 [.ptr 0 0,.int .u64 x,.int .i64 (n:Int),.int .u64 y] (memO a b c d e)).fin
theorem ld_all:[1,2,4,8].map ldE=[1,2,4,8].map ldX:=by kernel_rfl
theorem st_all:[1,2,4,8].map stE=[1,2,4,8].map stX:=by kernel_rfl
def szB (n:Int):Bool:=n == 1 || (n == 2 || (n == 4 || n == 8))
theorem szB_mem {n:Int} (h:szB n=true):∃ m:Nat,m ∈ [1,2,4,8]∧n=(m:Int):=by
 simp only [szB,Bool.or_eq_true,beq_iff_eq] at h
 rcases h with h | h | h | h
 ·exact ⟨1,by decide,h⟩
 ·exact ⟨2,by decide,h⟩
 ·exact ⟨4,by decide,h⟩
 ·exact ⟨8,by decide,h⟩
theorem okP_pg {r k:Int} (h:okP r k=true):isPg k=true:=by
 unfold okP pgR at h
 unfold isPg
 revert h
 cases k == 1 <;> cases k == 2 <;> cases k == 16 <;> cases k == 17 <;> cases k == 32 <;> intro h <;> first | rfl | cases h
theorem adr_eq {x n:Int} {r:Int} (h:rng64 x=true) (h1:1≤n) (h2:n≤16) (hm:mayB x n r=true) {i:Nat} (hi:(i:Int)<n):adr x i=x+i∧rng64 (x+i)=true:=by
 unfold mayB at hm
 obtain ⟨g1,_⟩:=Bool.and_eq_true_iff.1 hm
 have g1:=of_decide_eq_true g1
 have ey:=endF_eq h h1 h2 g1
 have hy:=endF_rng x n
 rw [ey] at hy
 simp only [rng64,Bool.and_eq_true,decide_eq_true_eq] at h hy ⊢
 have e:adr x i=(x+(i:Int) % 18446744073709551616) % 18446744073709551616:=rfl
 rw [e]
 omega
theorem usable_of {x n:Int} {r:Int} (h:rng64 x=true) (h1:1≤n) (h2:n≤16) (hm:mayB x n r=true) {i:Nat} (hi:(i:Int)<n):usable (adr x i)=true:=by
 obtain ⟨e1,e2⟩:=adr_eq h h1 h2 hm hi
 unfold usable
 rw [e1,e2,Bool.true_and]
 unfold mayB at hm
 obtain ⟨g1,g2⟩:=Bool.and_eq_true_iff.1 hm
 obtain ⟨g2,g3⟩:=Bool.and_eq_true_iff.1 g2
 have g1:=of_decide_eq_true g1
 have ey:=endF_eq h h1 h2 g1
 have hy:=endF_rng x n
 have px:=pgF_eq h
 have py:=pgF_eq hy
 have pi:=pgF_eq e2
 rcases Bool.or_eq_true_iff.1 g3 with g3 | g3
 ·have g3:pgF (endF x n)=pgF x:=by simpa using g3
  have:pgF (x+i)=pgF x:=by omega
  rw [this]
  exact okP_pg g2
 ·by_cases hq:pgF (x+i)=pgF x
  ·rw [hq]
   exact okP_pg g2
  ·have:pgF (x+i)=pgF (endF x n):=by omega
   rw [this]
   exact okP_pg g3
def ldN (a b c d e:List Int) (x:Int):Nat→Int→Int
 | 0,v=>v
 | m+1,v=>ldN a b c d e x m (ldS v (byteF a b c d e (adr x m)))
def stN (k x y:Int):Nat→Nat→List Int→List Int
 | 0,_,l=>l
 | m+1,i,l=>stN k x y m (i+1) (setF k (adr x i) (byS y i) l)
theorem ldGo_eq {a b c d e:List Int} {x:Int} (hl:lens5 a b c d e=true):∀ (m:Nat) (v:Int),(∀ i,i<m→usable (adr x i)=true)→ldGo a b c d e x m v=some (.ok (.tup [.int .u64 (ldN a b c d e x m v),.int .i64 0]) (memO a b c d e))
 | 0,_,_=>rfl
 | m+1,v,h=>by
  unfold ldGo ldN
  rw [hl,h m (by omega),Bool.and_true,cond_true,cond_true]
  exact ldGo_eq hl m _ fun i hi=>h i (by omega)
theorem setF_len (k x v:Int) (l:List Int):(setF k x v l).length=l.length:=by
 unfold setF
 cases pgF x == k
 ·rfl
 ·exact List.length_set
theorem pgB_set {l:List Int} (h:pgB l=true) (k x:Int) {v:Int} (hv:byteB v=true):pgB (setF k x v l)=true:=by
 unfold pgB at h ⊢
 rw [setF_len]
 obtain ⟨h1,h2⟩:=Bool.and_eq_true_iff.1 h
 rw [h1,Bool.true_and]
 unfold setF
 cases pgF x == k
 ·exact h2
 ·rw [cond_true,List.all_eq_true]
  intro y hy
  rcases List.mem_or_eq_of_mem_set hy with hy | rfl
  ·exact List.all_eq_true.1 h2 y hy
  ·exact hv
theorem byS_byte (y:Int) (i:Nat):byteB (byS y i)=true:=by
 unfold byteB byS
 have e:IntKind.wrap .u8 (Int.fdiv y (2 ^ (8*i)))=Int.fdiv y (2 ^ (8*i)) % 256:=rfl
 rw [e,Bool.and_eq_true_iff,decide_eq_true_iff,decide_eq_true_iff]
 omega
theorem lens5_set {a b c d e:List Int} (h:lens5 a b c d e=true) (x:Int) {v:Int} (hv:byteB v=true):lens5 (setF 1 x v a) (setF 2 x v b) (setF 16 x v c) (setF 17 x v d) (setF 32 x v e)=true:=by
 unfold lens5 at h ⊢
 simp only [Bool.and_eq_true] at h ⊢
 obtain ⟨h1,h2,h3,h4,h5⟩:=h
 exact ⟨pgB_set h1 _ _ hv,pgB_set h2 _ _ hv,pgB_set h3 _ _ hv,pgB_set h4 _ _ hv,pgB_set h5 _ _ hv⟩
theorem stGo_eq {x y:Int}:∀ (m i:Nat) {a b c d e:List Int},lens5 a b c d e=true→(∀ j,i≤j→j<i+m→usable (adr x j)=true) →
  stGo x y m i a b c d e=some (.ok (.int .i64 0) (memO (stN 1 x y m i a) (stN 2 x y m i b) (stN 16 x y m i c) (stN 17 x y m i d) (stN 32 x y m i e)))
 | 0,_,_,_,_,_,_,_,_=>rfl
 | m+1,i,a,b,c,d,e,hl,h=>by
  unfold stGo stN
  rw [hl,h i (by omega) (by omega),Bool.and_true,cond_true,cond_true]
  exact stGo_eq m (i+1) (lens5_set hl _ (byS_byte _ _)) fun j h1 h2=>h j (by omega) (by omega)
def loadM:MSpec:=fun args H=>match args with
 | [.ptr 0 0,.int .u64 x,.int .i64 n]=>memM (fun a b c d e=>.req (rng64 x && szB n) (.leaf (.ok (.tup [.int .u64 (cond (mayB x n 4) (ldN a b c d e x n.toNat 0) 0),.int .i64 (cond (mayB x n 4) 0 21)]) (memO a b c d e)))) H
 | _=>.fail
def stB (k x n y:Int) (l:List Int):List Int:=cond (mayB x n 2) (stN k x y n.toNat 0 l) l
def storeM:MSpec:=fun args H=>match args with
 | [.ptr 0 0,.int .u64 x,.int .i64 n,.int .u64 y]=>memM (fun a b c d e=>.req (rng64 x && szB n) (.leaf (.ok (.int .i64 (cond (mayB x n 2) 0 21)) (memO (stB 1 x n y a) (stB 2 x n y b) (stB 16 x n y c) (stB 17 x n y d) (stB 32 x n y e))))) H
 | _=>.fail
theorem loadM_ok:MSound Tryz.prog 145 loadM:=by
 intro args H out h
 unfold loadM at h
 split at h
 rotate_left
 ·cases h
 rename_i x n
 obtain ⟨a,b,c,d,e,rfl,hl,h⟩:=memM_run h
 obtain ⟨h1,h⟩:=req_run h
 cases h
 obtain ⟨hx,hn⟩:=Bool.and_eq_true_iff.1 h1
 obtain ⟨m,hm,rfl⟩:=szB_mem hn
 refine msound_fun (cx:=cx145) (fn:=Tryz.f145) (cx1_ok (ok1 sizedS_ok) (.cons noneM_ok (.cons mayM_ok (.cons getM_ok fun p h=>by cases h))) rfl rfl) (by kernel_rfl) (by kernel_rfl) _ _ _ ?_
 refine run_req (by kernel_rfl) ?_
 rw [← Tree.fin_run]
 refine (congrFun (congrFun (congrFun (congrFun (congrFun (congrFun (List.map_inj_left.1 ld_all _ hm) a) b) c) d) e) x).trans ?_
 have hm1:1≤m∧m≤16:=by
  simp only [List.mem_cons,List.not_mem_nil,or_false] at hm
  omega
 unfold ldX
 rw [hl,hx]
 cases hb:mayB x (m:Int) 4
 ·rfl
 ·exact ldGo_eq hl m 0 fun i hi=>usable_of hx (by omega) (by omega) hb (by omega)
theorem storeM_ok:MSound Tryz.prog 13 storeM:=by
 intro args H out h
 unfold storeM at h
 split at h
 rotate_left
 ·cases h
 rename_i x n y
 obtain ⟨a,b,c,d,e,rfl,hl,h⟩:=memM_run h
 obtain ⟨h1,h⟩:=req_run h
 cases h
 obtain ⟨hx,hn⟩:=Bool.and_eq_true_iff.1 h1
 obtain ⟨m,hm,rfl⟩:=szB_mem hn
 refine msound_fun (cx:=cx13) (fn:=Tryz.f13) (cx1_ok (ok1 sizedS_ok) (.cons noneM_ok (.cons mayM_ok (.cons putM_ok fun p h=>by cases h))) rfl rfl) (by kernel_rfl) (by kernel_rfl) _ _ _ ?_
 refine run_req (by kernel_rfl) ?_
 rw [← Tree.fin_run]
 refine (congrFun (congrFun (congrFun (congrFun (congrFun (congrFun (congrFun (List.map_inj_left.1 st_all _ hm) a) b) c) d) e) x) y).trans ?_
 have hm1:1≤m∧m≤16:=by
  simp only [List.mem_cons,List.not_mem_nil,or_false] at hm
  omega
 unfold stX stB
 rw [hl,hx]
 cases hb:mayB x (m:Int) 2
 ·rfl
 ·exact stGo_eq m 0 hl fun i _ hi=>usable_of hx (by omega) (by omega) hb (by omega)
end Go.Ra

namespace Go.Ra
open Go Go.Ab Go.Proofs
def isStart (x:Int):Bool:=x == 4096 || (x == 8192 || (x == 65536 || (x == 69632 || x == 131072)))
def isBase (x:Int):Bool:=x == 4096 || x == 65536
def bigOk (x n r:Int):Bool:=n == 0 || ((isBase x && (decide (1≤n) && (decide (n≤8192) && r == 0))) || (isStart x && (n == 4096 && r == 4)))
theorem mayGo_two {H:List O} {y r k:Int} (h0:0≤k) (hk:k<1000) (h1:okP r k=true) (hy:pgF y=k∨(pgF y=k+1∧okP r (k+1)=true)):mayGo H y r 3 k=some (.ok (.bool true) H):=by
 have w1:IntKind.wrap .u64 (k+1)=k+1:=by
  show (k+1) % 18446744073709551616=_
  omega
 have w2:IntKind.wrap .u64 (k+1+1)=k+1+1:=by
  show (k+1+1) % 18446744073709551616=_
  omega
 rw [mayGo_step,decide_eq_true (by omega),cond_true,h1,cond_true,w1,mayGo_step]
 rcases hy with hy | ⟨hy,h2⟩
 ·rw [decide_eq_false (by omega),cond_false]
 ·rw [decide_eq_true (by omega),cond_true,h2,cond_true,w2,mayGo_step,decide_eq_false (by omega),cond_false]
theorem endF_big {x n:Int} (h0:0≤x) (h1:x<1000000) (h2:1≤n) (h3:n≤8192):endF x n=x+n - 1:=by
 have e:endF x n=((x+n % 18446744073709551616) % 18446744073709551616 - 1) % 18446744073709551616:=rfl
 rw [e]
 omega
theorem pgF_small {x:Int} (h0:0≤x) (h1:x<10000000):pgF x=x / 4096:=by
 refine pgF_eq ?_
 simp only [rng64,Bool.and_eq_true,decide_eq_true_eq]
 omega
theorem mayX_big {H:List O} {x n r:Int} (h:bigOk x n r=true):mayX H x n r=some (.ok (.bool true) H):=by
 unfold mayX
 unfold bigOk at h
 cases h0:n == 0
 rotate_left
 ·rfl
 rw [cond_false]
 rw [h0,Bool.false_or] at h
 rcases Bool.or_eq_true_iff.1 h with h | h
 ·simp only [Bool.and_eq_true,decide_eq_true_eq,beq_iff_eq] at h
  obtain ⟨hx,h1,h2,rfl⟩:=h
  have hx:x=4096∨x=65536:=by simpa [isBase] using hx
  have he:=endF_big (x:=x) (n:=n) (by omega) (by omega) h1 h2
  have hy:=pgF_small (x:=x+n - 1) (by omega) (by omega)
  rw [he,decide_eq_true (by omega),Bool.not_true,cond_false]
  rcases hx with rfl | rfl
  ·refine mayGo_two (k:=1) (by decide) (by decide) rfl ?_
   rw [hy]
   by_cases hn:n≤4096
   ·exact .inl (by omega)
   ·exact .inr ⟨by omega,rfl⟩
  ·refine mayGo_two (k:=16) (by decide) (by decide) rfl ?_
   rw [hy]
   by_cases hn:n≤4096
   ·exact .inl (by omega)
   ·exact .inr ⟨by omega,rfl⟩
 ·simp only [Bool.and_eq_true,decide_eq_true_eq,beq_iff_eq] at h
  obtain ⟨hx,rfl,rfl⟩:=h
  have hx:x=4096∨x=8192∨x=65536∨x=69632∨x=131072:=by simpa [isStart] using hx
  rcases hx with rfl | rfl | rfl | rfl | rfl <;> rfl
def mayBig:MSpec:=fun args H=>match args with
 | [.ptr 0 0,.int .u64 x,.int .i64 n,.int .i64 r]=>memM (fun a b c d e=>.req (bigOk x n r) (.leaf (.ok (.bool true) (memO a b c d e)))) H
 | _=>.fail
theorem mayBig_ok:MSound Tryz.prog 31 mayBig:=by
 intro args H out h
 unfold mayBig at h
 split at h
 rotate_left
 ·cases h
 rename_i x n r
 obtain ⟨a,b,c,d,e,rfl,hl,h⟩:=memM_run h
 obtain ⟨h1,h⟩:=req_run h
 cases h
 refine msound_fun (cx:=cx31) (fn:=Tryz.f31) (cx1_ok (ok1 lastS_ok) (.cons noneM_ok fun p h=>by cases h) rfl rfl) (by kernel_rfl) (by kernel_rfl) _ _ _ ?_
 refine run_req (by kernel_rfl) ?_
 rw [← Tree.fin_run,may_eq,mayX_big h1]
end Go.Ra

namespace Go.Ra
open Go Go.Ab Go.Proofs
noncomputable def cx24:Cx:={ P:=Tryz.prog,n:=34,tab:=[],mtab:=[(30,noneM),(31,mayBig),(32,putM)],refs:=[],keeps:=[0,1,2,6,7,8,18,19,20,21,22] }
theorem cxPs_ok:CxOk cx24:=cx1_ok (.nil _) (.cons noneM_ok (.cons mayBig_ok (.cons putM_ok fun p h=>by cases h))) rfl rfl
noncomputable def cxPs0:Cx:={ cx24 with fuel:=1 }
noncomputable abbrev Bps:Code:=bodyOf Tryz.f24
def layL (k x:Int) (l:List Int):Nat→List Int→List Int
 | 0,P=>P
 | n+1,P=>setF k (adr x n) (l.getD n 0) (layL k x l n P)
theorem byte_getD {l:List Int} (h:l.all byteB=true) (n:Nat):byteB (l.getD n 0)=true:=by
 rw [List.getD_eq_getElem?_getD]
 cases hn:l[n]? with
 | none=>rfl
 | some v=>exact List.all_eq_true.1 h v (List.mem_of_getElem? hn)
theorem lens5_layL {a b c d e:List Int} (x:Int) (l:List Int) (hb:l.all byteB=true) (h:lens5 a b c d e=true):∀ n,lens5 (layL 1 x l n a) (layL 2 x l n b) (layL 16 x l n c) (layL 17 x l n d) (layL 32 x l n e)=true
 | 0=>h
 | n+1=>lens5_set (lens5_layL x l hb h n) _ (byte_getD hb n)
theorem adr_small {x:Int} {j:Nat} (h0:0≤x) (h1:x+j<18446744073709551616):adr x j=x+j:=by
 have e:adr x j=(x+(j:Int) % 18446744073709551616) % 18446744073709551616:=rfl
 rw [e]
 omega
theorem usable_base {x:Int} (hx:isBase x=true) {i:Nat} (hi:i<8192):usable (adr x i)=true:=by
 have hx:x=4096∨x=65536:=by simpa [isBase] using hx
 have ea:adr x i=x+i:=adr_small (by omega) (by omega)
 have hr:rng64 (x+i)=true:=by
  simp only [rng64,Bool.and_eq_true,decide_eq_true_eq]
  omega
 have hp:pgF (x+i)=(x+i) / 4096:=pgF_eq hr
 unfold usable
 rw [ea,hr,Bool.true_and]
 have:pgF (x+i)=1∨pgF (x+i)=2∨pgF (x+i)=16∨pgF (x+i)=17:=by omega
 rcases this with h | h | h | h <;> rw [h] <;> rfl
theorem all_t {α:Type} {c:Bool} {x y:Tree α} {Q:α→Prop} (h:c=true) (hx:x.all Q):(Tree.br c x y).all Q:=⟨fun _=>hx,fun e=>Bool.noConfusion (h.symm.trans e)⟩
theorem all_f {α:Type} {c:Bool} {x y:Tree α} {Q:α→Prop} (h:c=false) (hy:y.all Q):(Tree.br c x y).all Q:=⟨fun e=>Bool.noConfusion (h.symm.trans e),fun _=>hy⟩
def cutK (ks:List Nat) (s:St):Tree St:=.leaf (s.1,keep ks s.2.1,s.2.2)
theorem cutK_run (ks:List Nat) (x:Tree St):(x.bind (cutK ks)).run=x.run.map (fun s=>(s.1,keep ks s.2.1,s.2.2)):=by
 induction x with
 | leaf b=>rfl
 | fail=>rfl
 | br c x y h1 h2 =>
  cases c
  ·exact h2
  ·exact h1
def psT (x:Int) (l sp:List Int) (fl:Fl) (i:Int):T:=[(0,.ptr 0 0),(1,.int .u64 x),(19,.sl (.int .u8) l sp fl),(20,.int .i64 l.length),(21,.int .i64 i)]
def psS (x:Int) (l:List Int) (n:Nat) (a b c d e:List Int):List O:=memO (layL 1 x l n a) (layL 2 x l n b) (layL 16 x l n c) (layL 17 x l n d) (layL 32 x l n e)
def psRound (x:Int) (l sp:List Int) (fl:Fl) (i:Nat) (a b c d e:List Int):Tree St:=
 .br (decide ((i:Int)<l.length)) (.br (inside i l.length) (.br (lens5 a b c d e) (.br (usable (adr x i)) (.leaf (.normal,psT x l sp fl (IntKind.wrap .i64 ((i:Int)+1)),
   memO (setF 1 (adr x i) (l.getD i 0) a) (setF 2 (adr x i) (l.getD i 0) b) (setF 16 (adr x i) (l.getD i 0) c) (setF 17 (adr x i) (l.getD i 0) d) (setF 32 (adr x i) (l.getD i 0) e))) .fail) .fail) .fail)
  (.leaf (.exit 0,psT x l sp fl i,memO a b c d e))
theorem psRound_eq (x:Int) (l sp:List Int) (fl:Fl) (i:Nat) (a b c d e:List Int) :
  ((dcode cx24 (cin (cin (c2 (c1 (tailN 1 Bps))))) (psT x l sp fl i) (memO a b c d e)).bind (rnd 7 [] [0,1,19,20,21])).run=(psRound x l sp fl i a b c d e).run:=
 (show _=(psRound x l sp fl i a b c d e).out by kernel_rfl).trans (Tree.out_run _)
theorem ps_head (x:Int) (l sp:List Int) (fl:Fl) (a b c d e:List Int):((dcode cx24 (headN 1 Bps) (initT 0 [.ptr 0 0,.int .u64 x,.sl (.int .u8) l sp fl]) (memO a b c d e)).bind (cutK [0,1,2])).run =
  cond (lens5 a b c d e) (cond (bigOk x l.length 0) (some (.normal,[(0,.ptr 0 0),(1,.int .u64 x),(2,.sl (.int .u8) l sp fl)],memO a b c d e)) none) none:=by kernel_rfl
theorem ps_start (x:Int) (l sp:List Int) (fl:Fl) (H:List O):(dcode cx24 (c1 (c1 (tailN 1 Bps))) [(0,.ptr 0 0),(1,.int .u64 x),(2,.sl (.int .u8) l sp fl)] H).run.map (fun s=>(s.1,keep [0,1,19,20,21] s.2.1,s.2.2)) =
  some (.normal,psT x l sp fl 0,H):=by kernel_rfl
theorem ps_end (H:List O):((dcode cx24 (tailN 2 Bps) [] H).bind (answerM Tryz.prog Tryz.f24.results.toList)).run=some (.ok (.int .i64 0) H):=by kernel_rfl
theorem ps_nil (x:Int) (a b c d e:List Int):(mfun cxPs0 Tryz.f24 [.ptr 0 0,.int .u64 x,.val (.slice none 0 0)] (memO a b c d e)).fin=cond (lens5 a b c d e) (some (.ok (.int .i64 0) (memO a b c d e))) none:=by kernel_rfl
def psSt (x:Int) (l sp:List Int) (fl:Fl) (a b c d e:List Int) (i:{ i:Nat // i≤l.length }):T × List O:=(psT x l sp fl i.1,psS x l i.1 a b c d e)
theorem ps_ok {x:Int} {l:List Int} (sp:List Int) (fl:Fl) {a b c d e:List Int} (hx:isBase x=true) (hn:l.length≤8192) (hb8:l.all byteB=true) (hl:lens5 a b c d e=true) :
  MCall Tryz.prog 24 [.ptr 0 0,.int .u64 x,.sl (.int .u8) l sp fl] (memO a b c d e) (.ok (.int .i64 0) (psS x l l.length a b c d e)):=by
 refine mcall_of' (c:=Bps) (fn:=Tryz.f24) (by kernel_rfl) (by kernel_rfl) (by kernel_rfl) (by kernel_rfl) ?_
 have hb:bigOk x l.length 0=true:=by
  unfold bigOk
  cases h0:((l.length:Int) == 0)
  ·have h0:¬ (l.length:Int)=0:=by simpa using h0
   rw [hx,decide_eq_true (by omega),decide_eq_true (by omega)]
   rfl
  ·rfl
 refine AWP_headK (cx:=cx24) rfl rfl cxPs_ok 1 [0,1,2] (by kernel_rfl) (by rw [← cutK_run,ps_head,hl,hb]; rfl) ?_
 have eb:tailN 1 Bps = .seq (.seq (c1 (c1 (tailN 1 Bps))) (.block 0 (.loop (cin (cin (c2 (c1 (tailN 1 Bps)))))))) (tailN 2 Bps):=by kernel_rfl
 rw [eb]
 obtain ⟨s,g1,g2⟩:=Option.map_eq_some_iff.1 (ps_start x l sp fl (memO a b c d e))
 refine AWP_seq (AWP_seq (AWP_run (cx:=cx24) rfl rfl cxPs_ok g1 ?_))
 obtain ⟨ex,t,H⟩:=s
 simp only [Prod.mk.injEq] at g2
 obtain ⟨rfl,g2,rfl⟩:=g2
 refine AWP_block (AWP.less (s:=psT x l sp fl 0) (g2 ▸ TLe.keep _ _) ?_)
 refine AWP_roundsK (cx:=cx24) (P:=Tryz.prog) (n:=34) rfl rfl cxPs_ok (psSt x l sp fl a b c d e) (fun i=>l.length - i.1) [] [0,1,19,20,21] ?_ ⟨0,Nat.zero_le _⟩
 rintro ⟨i,hi⟩
 have hl' := lens5_layL x l hb8 hl i
 refine Tree.all_run_eq (psRound_eq x l sp fl i _ _ _ _ _) ?_
 refine ⟨fun hlt=>?_,fun hge=>?_⟩
 ·have hlt:i<l.length:=Int.ofNat_lt.1 (of_decide_eq_true hlt)
  refine all_t (inside_of (Int.natCast_nonneg i) (Int.ofNat_lt.2 hlt)) (all_t hl' (all_t (usable_base hx (by omega)) ⟨⟨i+1,hlt⟩,by show l.length - (i+1)<l.length - i; omega,?_,rfl⟩))
  rw [wrap_i64 (by omega) (by omega)]
  exact TLe.refl _
 ·have hge:¬ i<l.length:=fun h=>of_decide_eq_false hge (Int.ofNat_lt.2 h)
  have hi' : i=l.length:=by omega
  subst hi'
  intro t _
  show AWP _ _ _ _ _ _
  refine AWP.less (s:=[]) (fun _=>.inr rfl) ?_
  obtain ⟨s,g1,g2⟩:=bind_run (ps_end (psS x l l.length a b c d e))
  refine AWP_run (cx:=cx24) rfl rfl cxPs_ok g1 ?_
  exact answerM_post g2
def setPM:MSpec:=fun args H=>match args with
 | [.ptr 0 0,.int .u64 x,.sl (.int .u8) l _ _]=>memM (fun a b c d e=>.req (isBase x && (decide (l.length≤8192) && l.all byteB)) (.leaf (.ok (.int .i64 0) (memO (layL 1 x l l.length a) (layL 2 x l l.length b) (layL 16 x l l.length c) (layL 17 x l l.length d) (layL 32 x l l.length e))))) H
 | [.ptr 0 0,.int .u64 x,.val (.slice none 0 0)]=>memM (fun a b c d e=>.leaf (.ok (.int .i64 0) (memO a b c d e))) H
 | _=>.fail
theorem cxPs0_ok:CxOk cxPs0:=cxPs_ok
theorem setPM_ok:MSound Tryz.prog 24 setPM:=by
 intro args H out h
 unfold setPM at h
 split at h
 ·rename_i x l sp fl
  obtain ⟨a,b,c,d,e,rfl,hl,h⟩:=memM_run h
  obtain ⟨h1,h⟩:=req_run h
  cases h
  obtain ⟨hx,hn⟩:=Bool.and_eq_true_iff.1 h1
  obtain ⟨hn,h8⟩:=Bool.and_eq_true_iff.1 hn
  exact ps_ok sp fl hx (of_decide_eq_true hn) h8 hl
 ·rename_i x
  obtain ⟨a,b,c,d,e,rfl,hl,h⟩:=memM_run h
  cases h
  refine msound_fun (cx:=cxPs0) (fn:=Tryz.f24) cxPs0_ok (by kernel_rfl) (by kernel_rfl) _ _ _ ?_
  refine run_req (by kernel_rfl) ?_
  rw [← Tree.fin_run,ps_nil,hl,cond_true]
 ·cases h
end Go.Ra

namespace Go.Ra
open Go Go.Ab Go.Proofs
def vI (y s:Int):Int:=wu (y*2 ^ Min.min (Int.toNat s) 64)
def u2I (h l s:Int):Int:=wu ((BitVec.toNat (BitVec.ofInt 64 (vI h s) ||| BitVec.ofInt 64 (Int.fdiv l (2 ^ Min.min (Int.toNat (wu (64 - s))) 64))):Nat):Int)
def loI (x:Int):Int:=wu ((BitVec.toNat (BitVec.ofInt 64 x &&& BitVec.ofInt 64 4294967295):Nat):Int)
def hiI (x:Int):Int:=Int.fdiv x (2 ^ 32)
def qI (a b:Int):Int:=wu (Int.tdiv a b)
def rI (a b:Int):Int:=wu (a - wu (qI a b*b))
def mI (a b q v:Int):Int:=wu (wu (wu (a*4294967296)+b) - wu (q*v))
def numH (h l y s:Int):Tree St:=
 .br (decide (0≤s)) (.br (decide (0≤s)) (.br (decide (0≤wu (64 - s))) (.br (decide (0≤s)) (.br (!decide (hiI (vI y s)=0)) (.leaf (.normal,[(0,.int .u64 h),(1,.int .u64 l),(2,.int .u64 (vI y s)),(8,.int .u64 s),(9,.int .u64 (hiI (vI y s))),(10,.int .u64 (loI (vI y s))),
  (11,.int .u64 (u2I h l s)),(12,.int .u64 (vI l s)),(13,.int .u64 (hiI (vI l s))),(14,.int .u64 (loI (vI l s))),(15,.int .u64 (qI (u2I h l s) (hiI (vI y s)))),(16,.int .u64 (rI (u2I h l s) (hiI (vI y s))))],[])) .fail) .fail) .fail) .fail) .fail
theorem numH_eq (h l y s:Int):(dcode cx151 (headN 8 (tailN 4 Bdv)) [(0,.int .u64 h),(1,.int .u64 l),(2,.int .u64 y),(8,.int .u64 s)] []).run=(numH h l y s).run:=dvNum_eq h l y s
def midH (q v v1 v0 u2 u1 u0 s:Int):Tree St:=
 .br (!decide (v1=0)) (.leaf (.normal,[(2,.int .u64 v),(8,.int .u64 s),(9,.int .u64 v1),(10,.int .u64 v0),(11,.int .u64 u2),(13,.int .u64 u1),(14,.int .u64 u0),(15,.int .u64 q),(16,.int .u64 (rI (mI u2 u1 q v) v1)),(17,.int .u64 (mI u2 u1 q v)),(18,.int .u64 (qI (mI u2 u1 q v) v1))],[])) .fail
theorem midH_eq (q v v1 v0 u2 u1 u0 s:Int):(dcode cx151 (headN 2 (tailN 14 Bdv)) [(2,.int .u64 v),(8,.int .u64 s),(9,.int .u64 v1),(10,.int .u64 v0),(11,.int .u64 u2),(13,.int .u64 u1),(14,.int .u64 u0),(15,.int .u64 q)] []).run=(midH q v v1 v0 u2 u1 u0 s).run:=dvMid_eq q v v1 v0 u2 u1 u0 s
def endH (q1 q0 v u21 u0 s:Int):Tree St:=
 .br (decide (0≤s)) (.leaf (.ret,[(2,.int .u64 v),(6,.int .u64 (wu (wu (q1*4294967296)+q0))),(7,.int .u64 (Int.fdiv (mI u21 u0 q0 v) (2 ^ Min.min (Int.toNat s) 64))),(8,.int .u64 s),(14,.int .u64 u0),(15,.int .u64 q1),(17,.int .u64 u21),(18,.int .u64 q0)],[])) .fail
theorem endH_eq (q1 q0 v u21 u0 s:Int):(dcode cx151 (tailN 18 Bdv) [(2,.int .u64 v),(8,.int .u64 s),(14,.int .u64 u0),(15,.int .u64 q1),(17,.int .u64 u21),(18,.int .u64 q0)] []).run=(endH q1 q0 v u21 u0 s).run:=dvEnd_eq q1 q0 v u21 u0 s
theorem hi_cast (x:Nat):hiI (x:Int)=((x / 4294967296:Nat):Int):=fdiv_cast x 32
theorem lo_cast' (x:Nat):loI (x:Int)=((x % 4294967296:Nat):Int):=lo_cast x
theorem q_cast {x v:Nat} (h:x<18446744073709551616):qI (x:Int) (v:Int)=((x / v:Nat):Int):=by
 unfold qI
 rw [tdiv_cast]
 exact wu_cast (by have:=Nat.div_le_self x v; omega)
theorem r_cast {x v:Nat} (h:x<18446744073709551616):rI (x:Int) (v:Int)=((x % v:Nat):Int):=by
 unfold rI
 rw [q_cast h]
 exact rest_cast h
theorem pt_v {v:Nat}:v / 4294967296*4294967296+v % 4294967296=v:=by omega
theorem pt_u {u2 u10:Nat}:u2*18446744073709551616+u10=(u2*4294967296+u10 / 4294967296)*4294967296+u10 % 4294967296:=by omega
theorem pt_lt {u2 u10 v:Nat} (h:u2*18446744073709551616+u10<v*18446744073709551616):u2*4294967296+u10 / 4294967296<v*4294967296:=by
 rw [pt_u] at h
 refine Nat.lt_of_not_le fun g=>Nat.not_le.2 h ?_
 have g:=Nat.mul_le_mul_right 4294967296 g
 rw [Nat.mul_assoc v 4294967296 4294967296] at g
 exact Nat.le_trans g (Nat.le_add_right _ _)
theorem pt_lt2 {u21 u0 v:Nat} (h:u21<v) (h0:u0<4294967296):u21*4294967296+u0<v*4294967296:=by omega
theorem pt_q {q1 q0:Nat} (h:q1*4294967296+q0<18446744073709551616):wu (wu ((q1:Int)*4294967296)+(q0:Int))=((q1*4294967296+q0:Nat):Int):=by
 rw [wu_mod,wu_mod]
 omega
set_option maxRecDepth 8000 in
set_option maxHeartbeats 1000000 in
theorem dv_part2 {v u21 u0 q1 s:Nat} (b2:9223372036854775808≤v) (b3:v<18446744073709551616) (hu0:u0<4294967296) (hm:u21<v) (hs:s≤64) (hq:q1*4294967296+(u21*4294967296+u0) / v<18446744073709551616) :
  AWP Tryz.prog 135 (tailN 2 (tailN 14 Bdv)) (fun e t H=>(e = .ret∨e = .normal)∧answerV Tryz.prog Tryz.f151.results.toList H t=some (.tup [.int .u64 ((q1*4294967296+(u21*4294967296+u0) / v:Nat):Int),.int .u64 (((u21*4294967296+u0) % v / 2 ^ s:Nat):Int)]))
   [(2,.int .u64 v),(8,.int .u64 (s:Nat)),(9,.int .u64 ((v / 4294967296:Nat):Int)),(10,.int .u64 ((v % 4294967296:Nat):Int)),(14,.int .u64 (u0:Nat)),(15,.int .u64 (q1:Nat)),(16,.int .u64 ((u21 % (v / 4294967296):Nat):Int)),(17,.int .u64 (u21:Nat)),(18,.int .u64 ((u21 / (v / 4294967296):Nat):Int))] []:=by
 have hok:CxOk cx151:=cx1_ok (ok1 lzS_ok) (.nil _) rfl rfl
 have eV:v / 4294967296*4294967296+v % 4294967296=v:=pt_v
 have hs0:decide ((0:Int)≤(s:Int))=true:=decide_eq_true (by omega)
 have ec2:tailN 2 (tailN 14 Bdv) = .seq (.block 2 (.loop (cin (cin (c1 (tailN 17 Bdv)))))) (tailN 18 Bdv):=by kernel_rfl
 rw [ec2]
 refine AWP_seq (AWP_block ?_)
 refine dv_loop (cx:=cx151) (P:=Tryz.prog) (n:=135) rfl rfl hok (st:=fun q r=>[(2,.int .u64 v),(8,.int .u64 (s:Nat)),(9,.int .u64 ((v / 4294967296:Nat):Int)),(10,.int .u64 ((v % 4294967296:Nat):Int)),(14,.int .u64 (u0:Nat)),(15,.int .u64 (q1:Nat)),(16,.int .u64 r),(17,.int .u64 (u21:Nat)),(18,.int .u64 q)])
  (ex:=2) (a:=113) (b:=120) (v1:=v / 4294967296) (v0:=v % 4294967296) (u2:=u21) (u1:=u0) (by omega) (by omega) (by omega) hu0 (by rw [eV]; exact pt_lt2 hm hu0)
  (fun q r x=>Fits.tle ⟨rfl,rfl,rfl,rfl,rfl,rfl,rfl,rfl,rfl,trivial⟩) (fun q r=>dv_rd2 _ _ _ _ _ _ _ q r) ?_
 intro r x
 rw [eV]
 show AWP _ _ _ _ _ _
 refine AWP.less (s:=[(2,.int .u64 v),(8,.int .u64 (s:Nat)),(14,.int .u64 (u0:Nat)),(15,.int .u64 (q1:Nat)),(17,.int .u64 (u21:Nat)),(18,.int .u64 (((u21*4294967296+u0) / v:Nat):Int))])
  (Fits.tle ⟨rfl,rfl,rfl,rfl,rfl,rfl,trivial⟩) ?_
 have ee:(dcode cx151 (tailN 18 Bdv) [(2,.int .u64 v),(8,.int .u64 (s:Nat)),(14,.int .u64 (u0:Nat)),(15,.int .u64 (q1:Nat)),(17,.int .u64 (u21:Nat)),(18,.int .u64 (((u21*4294967296+u0) / v:Nat):Int))] []).run=_:=(endH_eq _ _ _ _ _ _).trans (show _=some _ by unfold endH; rw [hs0]; rfl)
 refine AWP_run (cx:=cx151) rfl rfl hok ee ?_
 refine ⟨.inl rfl,?_⟩
 have em2:mI (u21:Nat) (u0:Nat) (((u21*4294967296+u0) / v:Nat):Int) (v:Nat)=(((u21*4294967296+u0) % v:Nat):Int):=rest2_cast (by omega) (by omega)
 refine Eq.trans (b:=some (V.tup [.int .u64 (wu (wu ((q1:Nat)*4294967296)+(((u21*4294967296+u0) / v:Nat):Int))),.int .u64 (Int.fdiv (mI (u21:Nat) (u0:Nat) (((u21*4294967296+u0) / v:Nat):Int) (v:Nat)) (2 ^ Min.min (Int.toNat (s:Nat)) 64))])) (by kernel_rfl) ?_
 rw [em2,min_cast (by omega),fdiv_cast]
 rw [pt_q hq]
set_option maxRecDepth 8000 in
set_option maxHeartbeats 1000000 in
theorem div_call {h l y:Nat} (hh:h<y) (hy:y<2 ^ 64) (hl:l<18446744073709551616):PCall Tryz.prog 151 [.int .u64 h,.int .u64 l,.int .u64 y] (.tup [.int .u64 (dq128 h l y),.int .u64 (dr128 h l y)]):=by
 have hok:CxOk cx151:=cx1_ok (ok1 lzS_ok) (.nil _) rfl rfl
 refine pcall_of' (c:=Bdv) (fn:=Tryz.f151) (by kernel_rfl) (by kernel_rfl) (by kernel_rfl) (by kernel_rfl) ?_
 rw [dq_cast,dr_cast]
 refine AWP_headE (cx:=cx151) rfl rfl hok 4 (by kernel_rfl) (dvHead_eq h l y) ?_
 refine all_f (by rw [beq_eq_false_iff_ne]; omega) (all_f (decide_eq_false (by omega)) ⟨fun h0=>?_,fun h0=>?_⟩)
 ·have h0:(h:Int)=0:=eq_of_beq h0
  have h0:h=0:=by omega
  subst h0
  have hn:(!decide ((y:Int)=0))=true:=by rw [decide_eq_false (by omega)]; rfl
  refine all_t hn (all_t hn ⟨.inl rfl,?_⟩)
  refine Eq.trans (b:=some (V.tup [.int .u64 (wu (Int.tdiv (l:Int) (y:Int))),.int .u64 (Int.tmod (l:Int) (y:Int))])) (by kernel_rfl) ?_
  have e1:wu (Int.tdiv (l:Int) (y:Int))=(((0*18446744073709551616+l) / y:Nat):Int):=by
   rw [tdiv_cast,Nat.zero_mul,Nat.zero_add]
   exact wu_cast (by have:=Nat.div_le_self l y; omega)
  have e2:Int.tmod (l:Int) (y:Int)=(((0*18446744073709551616+l) % y:Nat):Int):=by
   rw [Int.tmod_eq_emod_of_nonneg (by omega),Nat.zero_mul,Nat.zero_add]
   rfl
  rw [e1,e2]
 refine all_t (by simp only [rng64,Bool.and_eq_true,decide_eq_true_eq]; omega) ?_
 show AWP _ _ _ _ _ _
 have hy0:y ≠ 0:=by omega
 obtain ⟨b1,b2,b3⟩:=dvS_bd hy hy0
 have es:=sF_eq hy
 refine AWP.less (s:=[(0,.int .u64 h),(1,.int .u64 l),(2,.int .u64 y),(8,.int .u64 (dvS y:Nat))]) (Fits.tle ⟨rfl,rfl,rfl,congrArg (V.int .u64) es,trivial⟩) ?_
 refine AWP_headE (cx:=cx151) rfl rfl hok 8 (by kernel_rfl) (numH_eq h l y (dvS y:Nat)) ?_
 have ev:vI (y:Int) (dvS y:Nat)=((y*2 ^ dvS y:Nat):Int):=by
  refine (shl_cast (x:=y) (s:=dvS y) (by omega)).trans ?_
  rw [Nat.mod_eq_of_lt b3]
 have el:vI (l:Int) (dvS y:Nat)=((dvU10 l (dvS y):Nat):Int):=shl_cast (x:=l) (s:=dvS y) (by omega)
 obtain ⟨eu,hu2⟩:=u2_cast hy hy0 hh hl
 have eu:u2I (h:Int) (l:Int) (dvS y:Nat)=((dvU2 h l (dvS y):Nat):Int):=eu
 have hu:=dvU_eq (h:=h) (l:=l) (s:=dvS y) (by omega)
 have h10:dvU10 l (dvS y)<18446744073709551616:=Nat.mod_lt _ (by decide)
 have e64:wu (64 - ((dvS y:Nat):Int))=((64 - dvS y:Nat):Int):=by
  rw [show (64:Int) - ((dvS y:Nat):Int)=((64 - dvS y:Nat):Int) by omega]
  exact wu_cast (by omega)
 have htot:(h*18446744073709551616+l)*2 ^ dvS y<y*2 ^ dvS y*18446744073709551616:=by
  have h1:h*18446744073709551616+l<y*18446744073709551616:=by
   have:(h+1)*18446744073709551616≤y*18446744073709551616:=Nat.mul_le_mul_right _ hh
   omega
  have:=Nat.mul_lt_mul_of_pos_right h1 (Nat.two_pow_pos (dvS y))
  rw [Nat.mul_right_comm y] at this
  exact this
 have hend:=kn_shift (x:=h*18446744073709551616+l) (y:=y) (dvS y) (by omega)
 rw [← hu] at htot hend
 unfold numH
 rw [ev,el,eu,hi_cast,hi_cast,lo_cast',lo_cast',q_cast hu2,r_cast hu2]
 have hs0:decide ((0:Int)≤((dvS y:Nat):Int))=true:=decide_eq_true (by omega)
 refine all_t hs0 (all_t hs0 (all_t (by rw [e64]; exact decide_eq_true (by omega)) (all_t hs0 (all_t (by rw [decide_eq_false (by omega)]; rfl) ?_))))
 show AWP _ _ _ _ _ _
 have hq:=dq_lt hh hl
 rw [← hend.1] at hq ⊢
 rw [← hend.2]
 clear hend hu es ev el eu e64
 generalize hs:dvS y=s at *
 generalize dvU2 h l s=u2 at *
 generalize dvU10 l s=u10 at *
 generalize y*2 ^ s=v at *
 have ec:tailN 8 (tailN 4 Bdv) = .seq (.block 0 (.loop (cin (cin (c1 (tailN 13 Bdv)))))) (tailN 14 Bdv):=by kernel_rfl
 rw [ec]
 have eV:v / 4294967296*4294967296+v % 4294967296=v:=pt_v
 have eU:u2*18446744073709551616+u10=(u2*4294967296+u10 / 4294967296)*4294967296+u10 % 4294967296:=pt_u
 have hu1:u2*4294967296+u10 / 4294967296<v*4294967296:=pt_lt htot
 rw [eU] at hq ⊢
 obtain ⟨j1,j2⟩:=kn_join (v:=v) (x:=u2*4294967296+u10 / 4294967296) (u0:=u10 % 4294967296) (by omega)
 rw [← j1] at hq ⊢
 rw [← j2]
 refine AWP_seq (AWP_block ?_)
 refine AWP.less (s:=[(2,.int .u64 v),(8,.int .u64 (s:Nat)),(9,.int .u64 ((v / 4294967296:Nat):Int)),(10,.int .u64 ((v % 4294967296:Nat):Int)),(11,.int .u64 (u2:Nat)),(13,.int .u64 ((u10 / 4294967296:Nat):Int)),(14,.int .u64 ((u10 % 4294967296:Nat):Int)),(15,.int .u64 ((u2 / (v / 4294967296):Nat):Int)),(16,.int .u64 ((u2 % (v / 4294967296):Nat):Int))])
  (Fits.tle ⟨rfl,rfl,rfl,rfl,rfl,rfl,rfl,rfl,rfl,trivial⟩) ?_
 refine dv_loop (cx:=cx151) (P:=Tryz.prog) (n:=135) rfl rfl hok (st:=fun q r=>[(2,.int .u64 v),(8,.int .u64 (s:Nat)),(9,.int .u64 ((v / 4294967296:Nat):Int)),(10,.int .u64 ((v % 4294967296:Nat):Int)),(11,.int .u64 (u2:Nat)),(13,.int .u64 ((u10 / 4294967296:Nat):Int)),(14,.int .u64 ((u10 % 4294967296:Nat):Int)),(15,.int .u64 q),(16,.int .u64 r)])
  (ex:=0) (a:=78) (b:=85) (v1:=v / 4294967296) (v0:=v % 4294967296) (u2:=u2) (u1:=u10 / 4294967296) (by omega) (by omega) (by omega) (by omega) (by rw [eV]; exact hu1)
  (fun q r x=>Fits.tle ⟨rfl,rfl,rfl,rfl,rfl,rfl,rfl,rfl,rfl,trivial⟩) (fun q r=>dv_rd1 _ _ _ _ _ _ _ q r) ?_
 intro r x
 rw [eV]
 show AWP _ _ _ _ _ _
 refine AWP.less (s:=[(2,.int .u64 v),(8,.int .u64 (s:Nat)),(9,.int .u64 ((v / 4294967296:Nat):Int)),(10,.int .u64 ((v % 4294967296:Nat):Int)),(11,.int .u64 (u2:Nat)),(13,.int .u64 ((u10 / 4294967296:Nat):Int)),(14,.int .u64 ((u10 % 4294967296:Nat):Int)),(15,.int .u64 (((u2*4294967296+u10 / 4294967296) / v:Nat):Int))])
  (Fits.tle ⟨rfl,rfl,rfl,rfl,rfl,rfl,rfl,rfl,trivial⟩) ?_
 refine AWP_headE (cx:=cx151) rfl rfl hok 2 (by kernel_rfl) (midH_eq _ _ _ _ _ _ _ _) ?_
 have em:mI (u2:Nat) ((u10 / 4294967296:Nat):Int) (((u2*4294967296+u10 / 4294967296) / v:Nat):Int) (v:Nat)=(((u2*4294967296+u10 / 4294967296) % v:Nat):Int):=rest2_cast (by omega) (by omega)
 unfold midH
 have hm:=Nat.mod_lt (u2*4294967296+u10 / 4294967296) (show 0<v by omega)
 rw [em,q_cast (by omega),r_cast (by omega)]
 refine all_t (by rw [decide_eq_false (by omega)]; rfl) ?_
 show AWP _ _ _ _ _ _
 refine AWP.less (s:=[(2,.int .u64 v),(8,.int .u64 (s:Nat)),(9,.int .u64 ((v / 4294967296:Nat):Int)),(10,.int .u64 ((v % 4294967296:Nat):Int)),(14,.int .u64 ((u10 % 4294967296:Nat):Int)),(15,.int .u64 (((u2*4294967296+u10 / 4294967296) / v:Nat):Int)),(16,.int .u64 (((u2*4294967296+u10 / 4294967296) % v % (v / 4294967296):Nat):Int)),(17,.int .u64 (((u2*4294967296+u10 / 4294967296) % v:Nat):Int)),(18,.int .u64 (((u2*4294967296+u10 / 4294967296) % v / (v / 4294967296):Nat):Int))])
  (Fits.tle ⟨rfl,rfl,rfl,rfl,rfl,rfl,rfl,rfl,rfl,trivial⟩) ?_
 exact dv_part2 b2 b3 (by omega) hm (by omega) hq
def div64S:Ab.Spec:=fun args=>match args with
 | [.int .u64 h,.int .u64 l,.int .u64 y]=>.req (rng64 h && (rng64 l && (rng64 y && decide (h<y)))) (.leaf (.tup [.int .u64 (dq128 h l y),.int .u64 (dr128 h l y)]))
 | _=>.fail
theorem div64S_ok:Sound Tryz.prog 151 div64S:=by
 intro args out g
 unfold div64S at g
 split at g
 rotate_left
 ·cases g
 rename_i h l y
 obtain ⟨h1,g⟩:=req_run g
 cases g
 simp only [rng64,Bool.and_eq_true,decide_eq_true_eq] at h1
 obtain ⟨⟨a1,a2⟩,⟨b1,b2⟩,⟨c1,c2⟩,d⟩:=h1
 obtain ⟨h,rfl⟩:=Int.eq_ofNat_of_zero_le a1
 obtain ⟨l,rfl⟩:=Int.eq_ofNat_of_zero_le b1
 obtain ⟨y,rfl⟩:=Int.eq_ofNat_of_zero_le c1
 exact div_call (by omega) (by omega) (by omega)
end Go.Ra

namespace Go.Ra
open Go Go.Ab Go.Proofs
def shlF (x c:Int):Int:=IntKind.wrap .u64 (x*2 ^ (min c.toNat 64))
def shrF (x c:Int):Int:=Int.fdiv x (2 ^ (min c.toNat 64))
def andU (a b:Int):Int:=IntKind.wrap .u64 (((BitVec.ofInt 64 a &&& BitVec.ofInt 64 b).toNat:Nat):Int)
noncomputable def cx150:Cx:={ P:=Tryz.prog,n:=51,tab:=[],mtab:=[],refs:=[],keeps:=[0,1,4,5,6,7,8,9,10,11,12,13] }
def s32 (x:Int):Int:=Int.fdiv x (2 ^ 32)
def lo32 (x:Int):Int:=andU x 4294967295
def mulA (a b:Int):Int:=wu (wu (s32 a*lo32 b)+s32 (wu (lo32 a*lo32 b)))
def mulB (a b:Int):Int:=wu (lo32 (mulA a b)+wu (lo32 a*s32 b))
def mulC (a b:Int):Int:=wu (wu (wu (s32 a*s32 b)+s32 (mulA a b))+s32 (mulB a b))
theorem mul_eq (a b:Int):(dfun cx150 Tryz.f150 [.int .u64 a,.int .u64 b]).fin=some (.tup [.int .u64 (mulC a b),.int .u64 (wu (a*b))]):=by kernel_rfl
theorem lo32_cast (x:Nat):lo32 (x:Int)=((x % 4294967296:Nat):Int):=by
 unfold lo32 andU
 have e1:(BitVec.ofInt 64 (x:Int)).toNat=x % 18446744073709551616:=by
  rw [BitVec.toNat_ofInt]
  omega
 rw [BitVec.toNat_and,e1,show (BitVec.ofInt 64 4294967295).toNat=2 ^ 32 - 1 from by decide,Nat.and_two_pow_sub_one_eq_mod]
 show ((x % 18446744073709551616 % 2 ^ 32:Nat):Int) % 18446744073709551616=_
 omega
theorem s32_cast (x:Nat):s32 (x:Int)=((x / 4294967296:Nat):Int):=by
 unfold s32
 rw [Int.fdiv_eq_ediv_of_nonneg _ (by decide)]
 rfl
theorem mulC_eq {a b:Int} (ha:rng64 a=true) (hb:rng64 b=true):mulC a b=a*b / 18446744073709551616:=by
 simp only [rng64,Bool.and_eq_true,decide_eq_true_eq] at ha hb
 obtain ⟨x,rfl⟩:=Int.eq_ofNat_of_zero_le ha.1
 obtain ⟨y,rfl⟩:=Int.eq_ofNat_of_zero_le hb.1
 obtain ⟨b1,b2,b3,e⟩:=Lib.mul64_hi x y (by omega) (by omega)
 have c1:=Lib.half_mul_le (a:=x / 4294967296) (b:=y / 4294967296) (by omega) (by omega)
 have c2:=Lib.half_mul_le (a:=x / 4294967296) (b:=y % 4294967296) (by omega) (by omega)
 have c3:=Lib.half_mul_le (a:=x % 4294967296) (b:=y / 4294967296) (by omega) (by omega)
 have e1:mulA x y=((x / 4294967296*(y % 4294967296)+x % 4294967296*(y % 4294967296) / 4294967296:Nat):Int):=by
  unfold mulA
  rw [lo32_cast,lo32_cast,s32_cast,← Int.natCast_mul,← Int.natCast_mul,wu_cast (by omega),wu_cast b1,s32_cast,← Int.natCast_add,wu_cast b2]
 have e2:mulB x y=(((x / 4294967296*(y % 4294967296)+x % 4294967296*(y % 4294967296) / 4294967296) % 4294967296+x % 4294967296*(y / 4294967296):Nat):Int):=by
  unfold mulB
  rw [e1,lo32_cast,lo32_cast,s32_cast,← Int.natCast_mul,wu_cast (by omega),← Int.natCast_add,wu_cast b3]
 unfold mulC
 rw [e1,e2,s32_cast,s32_cast,s32_cast,s32_cast,← Int.natCast_mul,wu_cast (by omega),← Int.natCast_add,wu_cast (by omega),← Int.natCast_add,wu_cast,e,Int.natCast_ediv,Int.natCast_mul]
 ·rfl
 ·rw [e]
  have:x*y / 18446744073709551616<18446744073709551616:=by
   rw [Nat.div_lt_iff_lt_mul (by decide)]
   exact Nat.mul_lt_mul'' (by omega) (by omega)
  omega
def mulHi (a b:Int):Int:=a*b / 18446744073709551616
def mulS:Ab.Spec:=fun args=>match args with
 | [.int .u64 a,.int .u64 b]=>.req (rng64 a && rng64 b) (.leaf (.tup [.int .u64 (mulHi a b),.int .u64 (wu (a*b))]))
 | _=>.fail
theorem mulS_ok:Sound Tryz.prog 150 mulS:=by
 intro args out h
 unfold mulS at h
 split at h
 rotate_left
 ·cases h
 rename_i a b
 obtain ⟨h1,h⟩:=req_run h
 cases h
 obtain ⟨g1,g2⟩:=Bool.and_eq_true_iff.1 h1
 refine pcall_fun' (cx:=cx150) (fn:=Tryz.f150) (cx0_ok rfl rfl) (by kernel_rfl) (by kernel_rfl) (by kernel_rfl) ?_
 rw [← Tree.fin_run,mul_eq,mulC_eq g1 g2]
 rfl
end Go.Ra
