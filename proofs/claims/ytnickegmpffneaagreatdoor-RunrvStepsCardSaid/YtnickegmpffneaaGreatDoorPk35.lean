/-
  The document's memory: numbers loaded and stored; rights. Conditions: none.
-/
import Derived.Test.YtnickegmpffneaaGreatDoorPk10
import Derived.Test.YtnickegmpffneaaGreatDoorRf2
import Derived.Test.YtnickegmpffneaaGreatDoorPk32
import Derived.Test.YtnickegmpffneaaGreatDoorPk33
set_option linter.unusedVariables false
set_option linter.unusedSimpArgs false
namespace Go.Ra
open Go Go.Ab Go.Proofs
noncomputable def rfB:Tabs:={ rtab:=[(69,findR),(71,canR),(163,getRf)],mtab:=[(72,putRf)] }
theorem rfB_ok:rfB.Ok Tryz.prog:=⟨.nil _,.cons putRf_ok (.nil _),.cons findR_ok (.cons canR_ok (.cons getRf_ok (.nil _))),fun p h=>by cases h⟩
noncomputable def rfT_ps:List Fi:=[⟨154,Tryz.f154,[0,2],[],0,[]⟩,⟨156,Tryz.f156,[0,2,3,4,9],[],9,[]⟩,⟨155,Tryz.f155,[0,1,4,5,6,9],[],9,[]⟩]
theorem rfT_ps_ok:FisOk Tryz.prog rfT_ps:=⟨⟨by kernel_rfl,by kernel_rfl⟩,⟨by kernel_rfl,by kernel_rfl⟩,⟨by kernel_rfl,by kernel_rfl⟩,trivial⟩
noncomputable def rfT_ms:List Fi:=[⟨102,Tryz.f102,[0,1,2,6,7,8,11],[],9,[]⟩,⟨32,Tryz.f32,[0,1,2,6,7,13,17],[],9,[]⟩]
theorem rfT_ms_ok:FisOk Tryz.prog rfT_ms:=⟨⟨by kernel_rfl,by kernel_rfl⟩,⟨by kernel_rfl,by kernel_rfl⟩,trivial⟩
noncomputable def rfT (d:Nat):Tabs:=deep Tryz.prog rfB rfT_ps rfT_ms d
theorem rfT_ok (d:Nat):(rfT d).Ok Tryz.prog:=deep_ok rfB_ok rfT_ps_ok rfT_ms_ok d
noncomputable def cxRl:Cx:={ P:=Tryz.prog,n:=Tryz.f98.ntmps,tab:=(rfT 1).tab,mtab:=(rfT 1).mtab,rtab:=(rfT 1).rtab,refs:=[],keeps:=[0,1,2,6,7,10,15] }
noncomputable def cxRs:Cx:={ P:=Tryz.prog,n:=Tryz.f97.ntmps,tab:=(rfT 1).tab,mtab:=(rfT 1).mtab,rtab:=(rfT 1).rtab,refs:=[],keeps:=[0,1,2,3,8,11,16] }
theorem cxRl_ok:CxOk cxRl:=rfT_ok 1
theorem cxRs_ok:CxOk cxRs:=rfT_ok 1
def rdGo (L:Bool) (x:Int) (k:Option Res):Nat→Nat→Option Res
 | 0,_=>k
 | m+1,i=>cond L (cond (usable (adr x i)) (rdGo L x k m (i+1)) none) none
def ldRX (n:Nat) (a b c d e:List Int) (x:Int):Option Res:=
 cond (lens5 a b c d e) (cond (rng64 x && true) (cond (!mayB x (n:Int) 4) (some (.ok (.tup [.int .u64 0,.int .i64 21]) (refO a b c d e))) (rdGo (lens5 a b c d e) x (some (.ok (.tup [.int .u64 (ldN a b c d e x n 0),.int .i64 0]) (refO a b c d e))) n 0)) none) none
noncomputable def ldRE (n:Nat) (a b c d e:List Int) (x:Int):Option Res:=(mfunR cxRl Tryz.f98 [] [.ptr 0 0,.int .u64 x,.int .i64 (n:Int)] (refO a b c d e)).fin
theorem ldr_all:[1,2,4,8].map ldRE=[1,2,4,8].map ldRX:=by kernel_rfl
theorem rdGo_eq {x:Int} {k:Option Res}:∀ (m i:Nat),(∀ j,i≤j→j<i+m→usable (adr x j)=true)→rdGo true x k m i=k
 | 0,_,_=>rfl
 | m+1,i,h=>by
  unfold rdGo
  rw [h i (by omega) (by omega),cond_true,cond_true]
  exact rdGo_eq m (i+1) fun j h1 h2=>h j (by omega) (by omega)
def loadRf:RSpec:=fun args H=>match args with
 | [.ptr 0 0,.int .u64 x,.int .i64 n]=>refM (fun a b c d e=>.req (rng64 x && szB n) (.leaf (.tup [.int .u64 (cond (mayB x n 4) (ldN a b c d e x n.toNat 0) 0),.int .i64 (cond (mayB x n 4) 0 21)]))) H
 | _=>.fail
theorem loadRf_ok:RSound Tryz.prog 98 loadRf:=by
 intro args H out h
 unfold loadRf at h
 split at h
 rotate_left
 ·cases h
 rename_i x n
 obtain ⟨a,b,c,d,e,rfl,hl,h⟩:=refM_run h
 obtain ⟨h1,h⟩:=req_run h
 cases h
 obtain ⟨hx,hn⟩:=Bool.and_eq_true_iff.1 h1
 obtain ⟨m,hm,rfl⟩:=szB_mem hn
 refine mfunR_ok (cx:=cxRl) (fn:=Tryz.f98) [] cxRl_ok (by kernel_rfl) (by kernel_rfl) _ _ _ ?_
 rw [← Tree.fin_run]
 refine (congrFun (congrFun (congrFun (congrFun (congrFun (congrFun (List.map_inj_left.1 ldr_all _ hm) a) b) c) d) e) x).trans ?_
 have hm1:1≤m∧m≤16:=by
  simp only [List.mem_cons,List.not_mem_nil,or_false] at hm
  omega
 unfold ldRX
 rw [hl,hx]
 cases hb:mayB x (m:Int) 4
 ·rfl
 ·rw [rdGo_eq m 0 fun j _ hj=>usable_of hx (by omega) (by omega) hb (by omega)]
  rfl
def fixB:Nat→Int→Int
 | 0,y=>IntKind.wrap .u8 y
 | i+1,y=>fixB i (Int.fdiv y (2 ^ 8))
def stGoR (x y:Int):Nat→Nat→List Int→List Int→List Int→List Int→List Int→Option Res
 | 0,_,a,b,c,d,e=>some (.ok (.int .i64 0) (refO a b c d e))
 | m+1,i,a,b,c,d,e=>cond (lens5 a b c d e) (cond (usable (adr x i)) (stGoR x y m (i+1) (setF 1 (adr x i) (fixB i y) a) (setF 2 (adr x i) (fixB i y) b) (setF 16 (adr x i) (fixB i y) c) (setF 17 (adr x i) (fixB i y) d) (setF 32 (adr x i) (fixB i y) e)) none) none
def stRX (n:Nat) (a b c d e:List Int) (x y:Int):Option Res:=
 cond (lens5 a b c d e) (cond (rng64 x && true) (cond (!mayB x (n:Int) 2) (some (.ok (.int .i64 21) (refO a b c d e)))
  (cond (lens5 a b c d e) (cond (rng64 x && true) (cond (!mayB x (n:Int) 0) (some (.ok (.int .i64 0) (refO a b c d e))) (stGoR x y n 0 a b c d e)) none) none)) none) none
noncomputable def stRE (n:Nat) (a b c d e:List Int) (x y:Int):Option Res:=(mfunR cxRs Tryz.f97 [] [.ptr 0 0,.int .u64 x,.int .i64 (n:Int),.int .u64 y] (refO a b c d e)).fin
theorem str_all:[1,2,4,8].map stRE=[1,2,4,8].map stRX:=by kernel_rfl
theorem fixB_eq:∀ (i:Nat) (y:Int),fixB i y=byS y i
 | 0,y=>by
  unfold fixB byS
  rw [Nat.mul_zero,Int.pow_zero,Int.fdiv_eq_ediv_of_nonneg _ (by decide),Int.ediv_one]
 | i+1,y=>by
  unfold fixB
  rw [fixB_eq i,byS_eq,byS_eq,Int.fdiv_eq_ediv_of_nonneg _ (by decide)]
  have e:(2:Int) ^ (8*(i+1))=2 ^ 8*2 ^ (8*i):=by
   rw [show 8*(i+1)=8+8*i by omega,Int.pow_add]
  rw [e,← Int.ediv_ediv_of_nonneg (by decide)]
theorem stGoR_eq {x y:Int}:∀ (m i:Nat) {a b c d e:List Int},lens5 a b c d e=true→(∀ j,i≤j→j<i+m→usable (adr x j)=true) →
  stGoR x y m i a b c d e=some (.ok (.int .i64 0) (refO (stN 1 x y m i a) (stN 2 x y m i b) (stN 16 x y m i c) (stN 17 x y m i d) (stN 32 x y m i e)))
 | 0,_,_,_,_,_,_,_,_=>rfl
 | m+1,i,a,b,c,d,e,hl,h=>by
  unfold stGoR stN
  rw [hl,h i (by omega) (by omega),cond_true,cond_true,fixB_eq]
  exact stGoR_eq m (i+1) (lens5_set hl _ (byS_byte _ _)) fun j h1 h2=>h j (by omega) (by omega)
theorem mayB_any {x n r:Int} (h:mayB x n r=true):mayB x n 0=true:=by
 unfold mayB at h ⊢
 simp only [Bool.and_eq_true,Bool.or_eq_true] at h ⊢
 have k0:∀ p,okP r p=true→okP 0 p=true:=fun p hp=>by
  have:=okP_pg hp
  simp only [isPg,Bool.or_eq_true,beq_iff_eq] at this
  rcases this with h | h | h | h | h <;> subst h <;> rfl
 exact ⟨h.1,k0 _ h.2.1,h.2.2.imp id (k0 _)⟩
def storeRf:MSpec:=fun args H=>match args with
 | [.ptr 0 0,.int .u64 x,.int .i64 n,.int .u64 y]=>refM (fun a b c d e=>.req (rng64 x && szB n) (.leaf (.ok (.int .i64 (cond (mayB x n 2) 0 21)) (refO (stB 1 x n y a) (stB 2 x n y b) (stB 16 x n y c) (stB 17 x n y d) (stB 32 x n y e))))) H
 | _=>.fail
theorem storeRf_ok:MSound Tryz.prog 97 storeRf:=by
 intro args H out h
 unfold storeRf at h
 split at h
 rotate_left
 ·cases h
 rename_i x n y
 obtain ⟨a,b,c,d,e,rfl,hl,h⟩:=refM_run h
 obtain ⟨h1,h⟩:=req_run h
 cases h
 obtain ⟨hx,hn⟩:=Bool.and_eq_true_iff.1 h1
 obtain ⟨m,hm,rfl⟩:=szB_mem hn
 refine mfunR_ok (cx:=cxRs) (fn:=Tryz.f97) [] cxRs_ok (by kernel_rfl) (by kernel_rfl) _ _ _ ?_
 rw [← Tree.fin_run]
 refine (congrFun (congrFun (congrFun (congrFun (congrFun (congrFun (congrFun (List.map_inj_left.1 str_all _ hm) a) b) c) d) e) x) y).trans ?_
 have hm1:1≤m∧m≤16:=by
  simp only [List.mem_cons,List.not_mem_nil,or_false] at hm
  omega
 unfold stRX stB
 rw [hl,hx]
 cases hb:mayB x (m:Int) 2
 ·rfl
 ·rw [mayB_any hb]
  exact stGoR_eq m 0 hl fun i _ hi=>usable_of hx (by omega) (by omega) hb (by omega)
end Go.Ra

namespace Go.Ra
open Go Go.Ab Go.Proofs
def iO64 (x:Int):Option V:=some (.int .i64 x)
noncomputable def cx161:Cx:={ P:=Tryz.prog,n:=16,tab:=[],mtab:=[],refs:=[],keeps:=[0,1,4,5,8] }
noncomputable def cx162:Cx:={ P:=Tryz.prog,n:=15,tab:=[],mtab:=[],refs:=[],keeps:=[0,1,4,5,9] }
noncomputable def cx158:Cx:={ P:=Tryz.prog,n:=4,tab:=[],mtab:=[],refs:=[],keeps:=[0,2,3] }
def quF (a b:Int):Int:=cond (b == 0) (-1) (cond (b == -1) (wi (0 - a)) (wi (Int.tdiv a b)))
def reF (a b:Int):Int:=cond (b == 0) a (cond (b == -1) 0 (Int.tmod a b))
theorem qu_eq (a b:Int):(dfun cx161 Tryz.f161 [.int .i64 a,.int .i64 b]).fin=cond (b == 0) (iO64 (-1)) (cond (b == -1) (iO64 (wi (0 - a))) (cond (!decide (b=0)) (iO64 (wi (Int.tdiv a b))) none)):=by kernel_rfl
theorem re_eq (a b:Int):(dfun cx162 Tryz.f162 [.int .i64 a,.int .i64 b]).fin=cond (b == 0) (iO64 a) (cond (b == -1) (iO64 0) (cond (!decide (b=0)) (iO64 (Int.tmod a b)) none)):=by kernel_rfl
def quS:Ab.Spec:=fun args=>match args with
 | [.int .i64 a,.int .i64 b]=>.leaf (.int .i64 (quF a b))
 | _=>.fail
def reS:Ab.Spec:=fun args=>match args with
 | [.int .i64 a,.int .i64 b]=>.leaf (.int .i64 (reF a b))
 | _=>.fail
theorem quS_ok:Sound Tryz.prog 161 quS:=by
 intro args out h
 unfold quS at h
 split at h
 rotate_left
 ·cases h
 rename_i a b
 cases h
 refine pcall_fun' (cx:=cx161) (fn:=Tryz.f161) (cx0_ok rfl rfl) (by kernel_rfl) (by kernel_rfl) (by kernel_rfl) ?_
 rw [← Tree.fin_run,qu_eq]
 unfold quF
 by_cases h0:b=0
 ·subst h0
  rfl
 ·have e:(b == 0)=false:=by simpa using h0
  rw [e,cond_false,cond_false,decide_eq_false h0]
  cases b == -1 <;> rfl
theorem reS_ok:Sound Tryz.prog 162 reS:=by
 intro args out h
 unfold reS at h
 split at h
 rotate_left
 ·cases h
 rename_i a b
 cases h
 refine pcall_fun' (cx:=cx162) (fn:=Tryz.f162) (cx0_ok rfl rfl) (by kernel_rfl) (by kernel_rfl) (by kernel_rfl) ?_
 rw [← Tree.fin_run,re_eq]
 unfold reF
 by_cases h0:b=0
 ·subst h0
  rfl
 ·have e:(b == 0)=false:=by simpa using h0
  rw [e,cond_false,cond_false,decide_eq_false h0]
  cases b == -1 <;> rfl
theorem fl_eq (b:Bool):(dfun cx158 Tryz.f158 [.bool b]).fin=cond b (some (.int .u64 1)) (some (.int .u64 0)):=by kernel_rfl
theorem flS_ok:Sound Tryz.prog 158 bitS:=by
 intro args out h
 unfold bitS at h
 split at h
 rotate_left
 ·cases h
 rename_i b
 cases h
 refine pcall_fun' (cx:=cx158) (fn:=Tryz.f158) (cx0_ok rfl rfl) (by kernel_rfl) (by kernel_rfl) (by kernel_rfl) ?_
 rw [← Tree.fin_run,fl_eq]
 cases b <;> rfl
def wdP (wd:Int→Int→Int × Int):Ab.Spec:=fun args=>match args with
 | [.int .u64 a,.int .u64 b]=>.leaf (.tup [.int .u64 (wd a b).1,.int .u64 (wd a b).2])
 | _=>.fail
section
variable (wd:Int→Int→Int × Int)
noncomputable def cxMh:Cx:={ P:=Tryz.prog,n:=Tryz.f160.ntmps,tab:=[(159,wdP wd)],mtab:=[],refs:=[],keeps:=[0,1,2,3,8,9,22,31] }
def mhF (h a b:Int) (sa sb:Bool):Int:=cond (cond sb (negB b) false) (wu (cond (cond sa (negB a) false) (wu (h - b)) h - a)) (cond (cond sa (negB a) false) (wu (h - b)) h)
def mhT (h a b:Int) (sa sb:Bool):Option V:=
 cond sa (cond (negB a) (cond sb (cond (negB b) (iO (wu (wu (h - b) - a))) (iO (wu (h - b)))) (iO (wu (h - b)))) (cond sb (cond (negB b) (iO (wu (h - a))) (iO h)) (iO h)))
  (cond sb (cond (negB b) (iO (wu (h - a))) (iO h)) (iO h))
theorem mh_eq (a b:Int) (sa sb:Bool):(dfun (cxMh wd) Tryz.f160 [.int .u64 a,.int .u64 b,.bool sa,.bool sb]).fin=mhT (wd a b).1 a b sa sb:=by kernel_rfl
def mhS:Ab.Spec:=fun args=>match args with
 | [.int .u64 a,.int .u64 b,.bool sa,.bool sb]=>.leaf (.int .u64 (mhF (wd a b).1 a b sa sb))
 | _=>.fail
variable {wd}
theorem mhS_ok (hw:Sound Tryz.prog 159 (wdP wd)):Sound Tryz.prog 160 (mhS wd):=by
 intro args out h
 unfold mhS at h
 split at h
 rotate_left
 ·cases h
 rename_i a b sa sb
 cases h
 refine pcall_fun' (cx:=cxMh wd) (fn:=Tryz.f160) (cx1_ok (ok1 hw) (.nil _) rfl rfl) (by kernel_rfl) (by kernel_rfl) (by kernel_rfl) ?_
 rw [← Tree.fin_run,mh_eq]
 unfold mhT mhF
 cases sa <;> cases sb <;> cases negB a <;> cases negB b <;> rfl
end
end Go.Ra

namespace Go.Ra
open Go Go.Ab Go.Proofs
def ckP (ck:InsR→Int):Ab.Spec:=fun args=>match args with
 | [.agg [.str nm,.int .i64 a,.int .i64 b,.int .i64 c,.int .i64 d,.int .i64 m]]=>.leaf (.int .i64 (ck (nm,a,b,c,d,m)))
 | _=>.fail
section
variable (ck:InsR→Int) (wd:Int→Int→Int × Int)
noncomputable def rgB:Tabs:={ tab:=[(41,ckP ck),(159,wdP wd),(160,mhS wd),(161,quS),(162,reS),(158,bitS)],mtab:=[(97,storeRf)],rtab:=[(98,loadRf)] }
noncomputable def rgT_ps:List Fi:=[⟨157,Tryz.f157,[0,2],[],0,[]⟩,⟨100,Tryz.f100,[0,1,2,6,7,9,10,11,16,21,26,31,36,42,48,56,64,70,79,84,89,94,102,110,113,117,120],[],0,[]⟩,⟨101,Tryz.f101,[0,1,2,6,7,8,9,14,15,23,31,41,52,63,66,72,75,83,89,95],[],0,[]⟩,⟨46,Tryz.f46,[0,1,2,6,7,8,17],[],0,[]⟩,⟨45,Tryz.f45,[0,2,3,4,18,20,22,24,26],[],0,[]⟩,⟨42,Tryz.f42,[0,2,3,4,5,8,10,13,15,18,20],[],0,[]⟩,⟨99,Tryz.f99,[0,1,4,5,6,13,20],[],0,[]⟩,⟨44,Tryz.f44,[0,1,2,6,7,8,13,18,25,32],[],0,[]⟩]
theorem rgT_ps_ok:FisOk Tryz.prog rgT_ps:=⟨⟨by kernel_rfl,by kernel_rfl⟩,⟨by kernel_rfl,by kernel_rfl⟩,⟨by kernel_rfl,by kernel_rfl⟩,⟨by kernel_rfl,by kernel_rfl⟩,⟨by kernel_rfl,by kernel_rfl⟩,⟨by kernel_rfl,by kernel_rfl⟩,⟨by kernel_rfl,by kernel_rfl⟩,⟨by kernel_rfl,by kernel_rfl⟩,trivial⟩
noncomputable def rgT_ms:List Fi:=[⟨43,Tryz.f43,[0,1,2,3,4,5,6,10,11,12,13,14,27,46,49],[],0,[18,35,57]⟩]
theorem rgT_ms_ok:FisOk Tryz.prog rgT_ms:=⟨⟨by kernel_rfl,by kernel_rfl⟩,trivial⟩
noncomputable def rgT (d:Nat):Tabs:=deep Tryz.prog (rgB ck wd) rgT_ps rgT_ms d
noncomputable def cxRg:Cx:={ P:=Tryz.prog,n:=Tryz.f20.ntmps,tab:=(rgT ck wd 3).tab,mtab:=(rgT ck wd 3).mtab,rtab:=(rgT ck wd 3).rtab,refs:=[],keeps:=[0,1,2,3,4,5,8,9,10,11,12,13,14,15,16,17,18,19,20,21,22,30,35,78,91,95,105,118,131,144,148,153,162,167,184],lz:=[53,58,77,104,117,126,143,181] }
noncomputable def runR (nm:List UInt8):RunTy:=fun s a b c d m sz A B C D E=>(mfunR (cxRg ck wd) Tryz.f20 [] [.agg s.l,insV nm a b c d m,.int .i64 sz,.ptr 0 0] (refO A B C D E)).fin
def topMD (nm:List UInt8) (K:RunTy):RunTy:=fun s a b c d m sz A B C D E =>
 cond (ck (nm,a,b,c,d,m) != 0) (errK s 22 (refO A B C D E)) (cond (Int.tmod s.pc 2 != 0) (errK s 10 (refO A B C D E)) (K s a b c d m sz A B C D E))
def topD (nm:List UInt8) (K:RunTy):RunTy:=fun s a b c d m sz A B C D E =>
 cond (sz != 2) (cond (sz != 4) (errK s 1 (refO A B C D E)) (topMD ck nm K s a b c d m sz A B C D E)) (topMD ck nm K s a b c d m sz A B C D E)
end
def endL (to:Int) (L:List V):List V:=.int .u64 to :: .int .u64 0 :: L.drop 2
def finD (s:CpuT) (L:List V) (to ev:Int) (H:List O):Option Res:=cond (Int.tmod to 2 != 0) (errK s 10 H) (outK (endL to L) ev H)
def preD (s:CpuT) (b c:Int) (k:Int→Int→Option Res):Option Res:=inX b (zs s).l (inX c (zs s).l (k (xAt b (zs s).l) (xAt c (zs s).l)))
def putL (a v:Int) (S:List V):List V:=setI .u64 (1+a.toNat*1) v 0 S
def putD (a v:Int) (S:List V) (K:List V→Option Res):Option Res:=inX a S (K (putL a v S))
def twoD (i:Bool) (f:TwoTy):RunTy:=fun s a b c _ m sz A B C D E =>
 preD s b c fun x y=>f x (cond i (wu m) y) fun v=>putD a v (zs s).l fun L=>finD s L (nxF s sz) 0 (refO A B C D E)
def x32 (x:Int):Int:=IntKind.wrap .u32 x
def s32w (x:Int):Int:=wi (IntKind.wrap .i32 (x32 x))
def wdD (x:Int):Int:=wu (s32w x)
def and31w (y:Int):Int:=IntKind.wrap .u32 (((BitVec.ofInt 32 (x32 y) &&& BitVec.ofInt 32 31).toNat:Nat):Int)
def shD (g:Int→Int→Int):TwoTy:=fun x y k=>q (decide (0≤and31w y)) (k (g x (and31w y)))
def sllD (x n:Int):Int:=wdD (wu (IntKind.wrap .u32 (x32 x*2 ^ (min n.toNat 32))))
def srlD (x n:Int):Int:=wdD (wu (Int.fdiv (x32 x) (2 ^ (min n.toNat 32))))
def sraD (x n:Int):Int:=wdD (wu (Int.fdiv (s32w x) (2 ^ (min n.toNat 64))))
def divuD:TwoTy:=fun x y k=>cond (y == 0) (k 18446744073709551615) (q (!decide (y=0)) (k (wu (Int.tdiv x y))))
def remuD:TwoTy:=fun x y k=>cond (y == 0) (k x) (q (!decide (y=0)) (k (Int.tmod x y)))
def divuwD:TwoTy:=fun x y k=>cond (x32 y == 0) (k 18446744073709551615) (q (!decide (x32 y=0)) (k (wdD (wu (IntKind.wrap .u32 (Int.tdiv (x32 x) (x32 y)))))))
def remuwD:TwoTy:=fun x y k=>cond (x32 y == 0) (k (wdD x)) (q (!decide (x32 y=0)) (k (wdD (wu (Int.tmod (x32 x) (x32 y))))))
def sg1 (x:Int):Int:=wu (wi (IntKind.wrap .i8 (IntKind.wrap .u8 x)))
def sg2 (x:Int):Int:=wu (wi (IntKind.wrap .i16 (IntKind.wrap .u16 x)))
def ldD (n:Int) (g:Int→Int):RunTy:=fun s a b c _ m sz A B C D E =>
 preD s b c fun _ _=>inX b (zs s).l (q (lens5 A B C D E) (q (rng64 (atF b m (zs s).l) && true) (cond (errLd (atF b m (zs s).l) n != 0) (cond (errLd (atF b m (zs s).l) n != 0) (errK s (errLd (atF b m (zs s).l) n) (refO A B C D E)) (finD s (zs s).l (nxF s sz) 0 (refO A B C D E)))
  (putD a (g (valLd A B C D E (atF b m (zs s).l) n)) (zs s).l fun L=>finD s L (nxF s sz) 0 (refO A B C D E)))))
def strD (n:Int):RunTy:=fun s _ b c _ m sz A B C D E =>
 preD s b c fun _ _=>inX b (zs s).l (inX c (zs s).l (stK (atF b m (zs s).l) n (xAt c (zs s).l) A B C D E fun A' B' C' D' E' =>
  cond (errSt (atF b m (zs s).l) n != 0) (errK s (errSt (atF b m (zs s).l) n) (refO A' B' C' D' E')) (finD s (zs s).l (nxF s sz) 0 (refO A' B' C' D' E'))))
def brD (g:Int→Int→Bool):RunTy:=fun s _ b c _ m sz A B C D E =>
 preD s b c fun x y=>cond (g x y) (finD s (zs s).l (wu (s.pc+wu m)) 0 (refO A B C D E)) (finD s (zs s).l (nxF s sz) 0 (refO A B C D E))
def pcS (a v pc:Int):Int:=cond (Nat.beq 0 (1+a.toNat*1)) v pc
def jalD:RunTy:=fun s a b c _ m sz A B C D E=>preD s b c fun _ _=>putD a (nxF s sz) (zs s).l fun L=>finD s L (wu (pcS a (nxF s sz) s.pc+wu m)) 0 (refO A B C D E)
def jalrD:RunTy:=fun s a b c _ m sz A B C D E=>preD s b c fun x _=>putD a (nxF s sz) (zs s).l fun L=>finD s L (andnU (wu (x+wu m)) 1) 0 (refO A B C D E)
def luiD:RunTy:=fun s a b c _ m sz A B C D E=>preD s b c fun _ _=>putD a (wu (wu m*2 ^ 12)) (zs s).l fun L=>finD s L (nxF s sz) 0 (refO A B C D E)
def auipcD:RunTy:=fun s a b c _ m sz A B C D E=>preD s b c fun _ _=>putD a (wu (s.pc+wu (wu m*2 ^ 12))) (zs s).l fun L=>finD s L (nxF s sz) 0 (refO A B C D E)
def ecallD:RunTy:=fun s _ b c _ _ sz A B C D E=>preD s b c fun _ _=>finD s (zs s).l (nxF s sz) 1 (refO A B C D E)
def ebreakD:RunTy:=fun s _ b c _ _ _ A B C D E=>preD s b c fun _ _=>outK (zs s).l 2 (refO A B C D E)
def rowsG (wd:Int→Int→Int × Int):List (List UInt8 × RunTy):=[
 ([97,100,100],twoD false (opF fun x y=>wu (x+y))),
 ([115,117,98],twoD false (opF fun x y=>wu (x - y))),
 ([115,108,108],twoD false (shF 63 shlF)),
 ([115,108,116],twoD false (opF fun x y=>bitF (decide (wi x<wi y)))),
 ([115,108,116,117],twoD false (opF fun x y=>bitF (decide (x<y)))),
 ([120,111,114],twoD false (opF xorU)),
 ([115,114,108],twoD false (shF 63 shrF)),
 ([115,114,97],twoD false (shF 63 sraF)),
 ([111,114],twoD false (opF orU)),
 ([97,110,100],twoD false (opF andU)),
 ([109,117,108],twoD false (opF fun x y=>(wd x y).2)),
 ([109,117,108,104],twoD false (opF fun x y=>mhF (wd x y).1 x y true true)),
 ([109,117,108,104,115,117],twoD false (opF fun x y=>mhF (wd x y).1 x y true false)),
 ([109,117,108,104,117],twoD false (opF fun x y=>mhF (wd x y).1 x y false false)),
 ([100,105,118],twoD false (opF fun x y=>wu (quF (wi x) (wi y)))),
 ([100,105,118,117],twoD false divuD),
 ([114,101,109],twoD false (opF fun x y=>wu (reF (wi x) (wi y)))),
 ([114,101,109,117],twoD false remuD),
 ([97,100,100,119],twoD false (opF fun x y=>wdD (wu (x+y)))),
 ([115,117,98,119],twoD false (opF fun x y=>wdD (wu (x - y)))),
 ([115,108,108,119],twoD false (shD sllD)),
 ([115,114,108,119],twoD false (shD srlD)),
 ([115,114,97,119],twoD false (shD sraD)),
 ([109,117,108,119],twoD false (opF fun x y=>wdD (wu (x*y)))),
 ([100,105,118,119],twoD false (opF fun x y=>wdD (wu (quF (s32w x) (s32w y))))),
 ([100,105,118,117,119],twoD false divuwD),
 ([114,101,109,119],twoD false (opF fun x y=>wdD (wu (reF (s32w x) (s32w y))))),
 ([114,101,109,117,119],twoD false remuwD),
 ([97,100,100,105],twoD true (opF fun x y=>wu (x+y))),
 ([115,108,116,105],twoD true (opF fun x y=>bitF (decide (wi x<wi y)))),
 ([115,108,116,105,117],twoD true (opF fun x y=>bitF (decide (x<y)))),
 ([120,111,114,105],twoD true (opF xorU)),
 ([111,114,105],twoD true (opF orU)),
 ([97,110,100,105],twoD true (opF andU)),
 ([97,100,100,105,119],twoD true (opF fun x y=>wdD (wu (x+y)))),
 ([108,98],ldD 1 sg1),
 ([108,104],ldD 2 sg2),
 ([108,119],ldD 4 wdD),
 ([108,100],ldD 8 fun x=>x),
 ([108,98,117],ldD 1 fun x=>x),
 ([108,104,117],ldD 2 fun x=>x),
 ([108,119,117],ldD 4 fun x=>x),
 ([106,97,108,114],jalrD),
 ([115,108,108,105],twoD true (shF 63 shlF)),
 ([115,114,108,105],twoD true (shF 63 shrF)),
 ([115,114,97,105],twoD true (shF 63 sraF)),
 ([115,108,108,105,119],twoD true (shD sllD)),
 ([115,114,108,105,119],twoD true (shD srlD)),
 ([115,114,97,105,119],twoD true (shD sraD)),
 ([115,98],strD 1),
 ([115,104],strD 2),
 ([115,119],strD 4),
 ([115,100],strD 8),
 ([98,101,113],brD fun x y=>x == y),
 ([98,110,101],brD fun x y=>x != y),
 ([98,108,116],brD fun x y=>decide (wi x<wi y)),
 ([98,103,101],brD fun x y=>decide (wi y≤wi x)),
 ([98,108,116,117],brD fun x y=>decide (x<y)),
 ([98,103,101,117],brD fun x y=>decide (y≤x)),
 ([108,117,105],luiD),
 ([97,117,105,112,99],auipcD),
 ([106,97,108],jalD),
 ([101,99,97,108,108],ecallD),
 ([101,98,114,101,97,107],ebreakD)]
def gE (ck:InsR→Int) (x:List UInt8 × RunTy):=W2 (topD ck x.1 x.2)
noncomputable def gO (ck:InsR→Int) (wd:Int→Int→Int × Int) (x:List UInt8 × RunTy):=W1 (runR ck wd x.1)
end Go.Ra

namespace Go.Ra
open Go Go.Ab Go.Proofs
def putS (a v:Int) (s:CpuT):CpuT:={ s with x:=s.x.set a.toNat v }
def setS (a v:Int) (s:CpuT):CpuT:=cond (a == 0) s (putS a v s)
def finC (s s' : CpuT) (nx ev:Int) (H:List O):Option Res:=cond (Int.tmod nx 2 != 0) (errK s 10 H) (outK ({ s' with pc:=nx }:CpuT).l ev H)
theorem l_eq (s:CpuT) (t:List V):s.l++t=[.int .u64 s.pc]++(s.x.map (V.int .u64)++([.bool s.z,.bool s.n,.bool s.c,.bool s.v,.int .u64 s.th]++t)):=by
 show (([.int .u64 s.pc]++s.x.map (V.int .u64))++[.bool s.z,.bool s.n,.bool s.c,.bool s.v,.int .u64 s.th])++t=_
 simp
section
variable {s:CpuT} (hs:s.x.length=32)
include hs
theorem setI_cpu {n:Nat} (hn:n<32) (v:Int) (t:List V):setI .u64 (1+n) v 0 (s.l++t)=({ s with x:=s.x.set n v }:CpuT).l++t:=by
 rw [l_eq,l_eq,setI_append,setI_append,setI_out [.int .u64 s.pc] 0 (Or.inr (by simp)),setI_in s.x _ (by simp) (by simp [hs]; omega),setI_out _ _ (Or.inl (by simp [hs]; omega))]
 simp
theorem intAt_cpu {n:Nat} (hn:n<32) (t:List V):intAt (s.l++t) (1+n)=s.x.getD n 0:=by
 rw [l_eq,intAt_append (by simp),intAt_front (by simp [hs]; omega),intAt_map]
 simp
theorem isInt_cpu {n:Nat} (hn:n<32) (t:List V):isIntAt .u64 (s.l++t) (1+n)=true:=by
 rw [l_eq]
 exact isIntAt_row (by simp) (by simp [hs]; omega)
theorem l_len:s.l.length=38:=by
 have e:=l_eq s []
 rw [List.append_nil,List.append_nil] at e
 rw [e]
 simp [hs]
theorem xAt_eq {b:Int} (hb:okReg b=true) (t:List V):xAt b (s.l++t)=s.x.getD b.toNat 0:=by
 obtain ⟨h0,h1⟩:=okReg_in hb
 unfold xAt
 rw [Nat.mul_one]
 exact intAt_cpu hs (by omega) t
theorem xAt_eq0 {b:Int} (hb:okReg b=true):xAt b s.l=s.x.getD b.toNat 0:=by
 have:=xAt_eq hs hb []
 rwa [List.append_nil] at this
theorem inX_eq {b:Int} (hb:okReg b=true) (t:List V) (k:Option Res):inX b (s.l++t) k=k:=by
 obtain ⟨h0,h1⟩:=okReg_in hb
 unfold inX q
 rw [inside_of h0 (by omega),Nat.mul_one,isInt_cpu hs (by omega) t]
 rfl
theorem inX_eq0 {b:Int} (hb:okReg b=true) (k:Option Res):inX b s.l k=k:=by
 have:=inX_eq hs hb [] k
 rwa [List.append_nil] at this
theorem setL_eq {a:Int} (ha:okReg a=true) (v:Int):setL a v s.l=(setS a v s).l:=by
 obtain ⟨h0,h1⟩:=okReg_in ha
 unfold setL setS oX putS
 cases a == 0
 ·rw [cond_false,cond_false]
  have:=setI_cpu hs (n:=a.toNat) (by omega) v []
  simpa using this
 ·rw [cond_true,cond_true,setI_out _ _ (Or.inr (by rw [l_len hs]; omega))]
theorem putL_eq {a:Int} (ha:okReg a=true) (v:Int):putL a v s.l=(putS a v s).l:=by
 obtain ⟨h0,h1⟩:=okReg_in ha
 unfold putL putS
 rw [Nat.mul_one]
 have:=setI_cpu hs (n:=a.toNat) (by omega) v []
 simpa using this
theorem putS_len (a v:Int):(putS a v s).x.length=32:=by
 unfold putS
 simp [hs]
theorem endL_eq (to:Int):endL to s.l=({ zs s with pc:=to }:CpuT).l:=by
 obtain ⟨pc,x,z,n,c,v,th⟩:=s
 cases x with
 | nil=>cases hs
 | cons y r=>rfl
end
theorem nxS_set {a:Int} (ha:okReg a=true) (v nx:Int):nxS (oX a) v nx=nx:=by
 obtain ⟨h0,h1⟩:=okReg_in ha
 unfold nxS oX
 have:Nat.beq 45 (cond (a == 0) 1000 (1+a.toNat))=false:=by
  cases h:Nat.beq 45 (cond (a == 0) 1000 (1+a.toNat))
  ·rfl
  ·have g:=Nat.eq_of_beq_eq_true h
   revert g
   cases a == 0
   ·rw [cond_false]; omega
   ·rw [cond_true]; omega
 rw [this]
 rfl
theorem zs_len {s:CpuT} (hs:s.x.length=32):(zs s).x.length=32:=by
 show (0 :: s.x.drop 1).length=32
 simp [hs]
theorem zs_put {s:CpuT} {a:Int} (ha:okReg a=true) (v:Int):zs (putS a v (zs s))=setS a v (zs s):=by
 obtain ⟨h0,h1⟩:=okReg_in ha
 obtain ⟨n,rfl⟩:=Int.eq_ofNat_of_zero_le h0
 unfold setS
 cases n with
 | zero=>rfl
 | succ n =>
  have e:(((n+1:Nat):Int) == 0)=false:=by
   rw [beq_eq_false_iff_ne]
   omega
  rw [e,cond_false]
  rfl
def Both (s:CpuT) (r g:Option Res):Prop:=∃ (s' : CpuT) (ev err:Int) (A B C D E:List Int),Fine s' ∧ lens5 A B C D E=true∧(err ≠ 0→s' = s∧ev=0) ∧
 r=some (.ok (.tup [.agg s'.l,.int .i64 ev,.int .i64 err]) (memO A B C D E))∧g=some (.ok (.tup [.agg s'.l,.int .i64 ev,.int .i64 err]) (refO A B C D E))
theorem getD_setI {l:List Int} {i j:Nat} {v:Int}:rng64 v=true→rng64 (l.getD j 0)=true→rng64 ((l.set i v).getD j 0)=true:=by
 intro hv hl
 rw [List.getD_eq_getElem?_getD,List.getElem?_set]
 split
 ·split
  ·exact hv
  ·rfl
 ·rw [← List.getD_eq_getElem?_getD]
  exact hl
theorem fine_put {s:CpuT} (h:Fine s) (a:Int) {v:Int} (hv:rng64 v=true):Fine (putS a v s):=
 ⟨putS_len h.len a v,fun i=>getD_setI hv (h.rng i),h.pc⟩
theorem fine_set {s:CpuT} (h:Fine s) (a:Int) {v:Int} (hv:rng64 v=true):Fine (setS a v s):=by
 unfold setS
 cases a == 0
 ·exact fine_put h a hv
 ·exact h
theorem fine_zs {s:CpuT} (h:Fine s):Fine (zs s):=by
 refine ⟨zs_len h.len,fun i=>?_,h.pc⟩
 show rng64 ((0 :: s.x.drop 1).getD i 0)=true
 cases i with
 | zero=>rfl
 | succ i =>
  have:(0 :: s.x.drop 1).getD (i+1) 0=s.x.getD (i+1) 0:=by
   simp only [List.getD_eq_getElem?_getD,List.getElem?_cons_succ,List.getElem?_drop]
   rw [Nat.add_comm 1 i]
  rw [this]
  exact h.rng (i+1)
theorem both_err {s:CpuT} (h:Fine s) (e:Int) {A B C D E:List Int} (hl:lens5 A B C D E=true):Both s (errK s e (memO A B C D E)) (errK s e (refO A B C D E)):=
 ⟨s,0,e,A,B,C,D,E,h,hl,fun _=>⟨rfl,rfl⟩,rfl,rfl⟩
theorem both_out {s s' : CpuT} (h' : Fine s') (ev:Int) {A B C D E:List Int} (hl:lens5 A B C D E=true):Both s (outK s'.l ev (memO A B C D E)) (outK s'.l ev (refO A B C D E)):=
 ⟨s',ev,0,A,B,C,D,E,h',hl,fun h=>absurd rfl h,rfl,rfl⟩
theorem both_fin {s s' : CpuT} (h:Fine s) (h' : Fine s') {nx:Int} (hn:rng64 nx=true) (ev:Int) {A B C D E:List Int} (hl:lens5 A B C D E=true) :
  Both s (finC s s' nx ev (memO A B C D E)) (finC s s' nx ev (refO A B C D E)):=by
 unfold finC
 cases (Int.tmod nx 2 != 0)
 ·exact both_out (s' := { s' with pc:=nx }) ⟨h'.len,h'.rng,hn⟩ ev hl
 ·exact both_err h 10 hl
structure Hy (s:CpuT) (a b c:Int) (A B C D E:List Int):Prop where
 s:Fine s
 a:okReg a=true
 b:okReg b=true
 c:okReg c=true
 l:lens5 A B C D E=true
def Alike (r g:RunTy):Prop:=∀ s a b c d m sz A B C D E,Hy s a b c A B C D E→Both s (r s a b c d m sz A B C D E) (g s a b c d m sz A B C D E)
section
variable {s:CpuT} {H:List O} {nx:Int}
theorem setK_R {r:CpuT} {a:Int} (ha:okReg a=true) (hr:r.x.length=32) (v:Int) (K:KTy):setK a v nx r.l K=K (setS a v r).l nx:=by
 unfold setK q
 rw [ha,cond_true,setL_eq hr ha,nxS_set ha]
theorem putD_R {a:Int} (ha:okReg a=true) (hs:s.x.length=32) (v ev:Int):putD a v (zs s).l (fun L=>finD s L nx ev H)=finC s (setS a v (zs s)) nx ev H:=by
 unfold putD
 rw [inX_eq0 (zs_len hs) ha]
 show finD s (putL a v (zs s).l) nx ev H=_
 unfold finD finC
 rw [putL_eq (zs_len hs) ha,endL_eq (putS_len (zs_len hs) a v),zs_put ha]
theorem finD_R (hs:s.x.length=32) (ev:Int):finD s (zs s).l nx ev H=finC s (zs s) nx ev H:=by
 unfold finD finC
 rw [endL_eq (zs_len hs)]
 rfl
theorem finK_R (s' : CpuT):finK s s'.l nx H=finC s s' nx 0 H:=rfl
theorem preD_R {b c:Int} (hs:s.x.length=32) (hb:okReg b=true) (hc:okReg c=true) (k:Int→Int→Option Res):preD s b c k=k ((zs s).x.getD b.toNat 0) ((zs s).x.getD c.toNat 0):=by
 unfold preD
 rw [inX_eq0 (zs_len hs) hb,inX_eq0 (zs_len hs) hc,xAt_eq0 (zs_len hs) hb,xAt_eq0 (zs_len hs) hc]
theorem preK_R (nm:List UInt8) (i:Bool) {a b c d m sz:Int} (hs:s.x.length=32) (hb:okReg b=true) (hc:okReg c=true) (k:Int→Int→List V→Option Res) :
  ∃ t,preK s nm i a b c d m sz k=k ((zs s).x.getD b.toNat 0) (cond i (wu m) ((zs s).x.getD c.toNat 0)) ((zs s).l++t):=by
 refine ⟨(.ptr 1 0 :: [.str nm,.int .i64 a,.int .i64 b,.int .i64 c,.int .i64 d,.int .i64 m,.int .u64 (nxF s sz)]),?_⟩
 unfold preK stC
 rw [inX_eq (zs_len hs) hb,inX_eq (zs_len hs) hc,xAt_eq (zs_len hs) hb,xAt_eq (zs_len hs) hc]
 cases i <;> rfl
end
theorem rng_spec {x:Int} (h:rng64 x=true):0≤x∧x<18446744073709551616:=by
 simpa only [rng64,Bool.and_eq_true,decide_eq_true_eq] using h
theorem rng_of {x:Int} (h0:0≤x) (h1:x<18446744073709551616):rng64 x=true:=by
 simp only [rng64,Bool.and_eq_true,decide_eq_true_eq]
 exact ⟨h0,h1⟩
theorem wu_def (x:Int):wu x=x % 18446744073709551616:=rfl
theorem rng_wu (x:Int):rng64 (wu x)=true:=by
 refine rng_of ?_ ?_ <;> rw [wu_def] <;> omega
theorem wu_rng {x:Int} (h:rng64 x=true):wu x=x:=by
 obtain ⟨h0,h1⟩:=rng_spec h
 rw [wu_def]
 omega
theorem wi_def (y:Int):wi y=if 9223372036854775808≤y % 18446744073709551616 then y % 18446744073709551616 - 18446744073709551616 else y % 18446744073709551616:=by
 unfold wi IntKind.wrap
 simp [IntKind.bits,IntKind.signed]
theorem nx_rng (s:CpuT) (sz:Int):rng64 (nxF s sz)=true:=rng_wu _
def OneV (f g:TwoTy):Prop:=∀ x y,rng64 x=true→rng64 y=true → ∃ v,rng64 v=true∧(∀ k,f x y k=k v)∧(∀ k,g x y k=k v)
theorem al_two (nm:List UInt8) (i:Bool) {f g:TwoTy} (h:OneV f g):Alike (twoR nm i f) (twoD i g):=by
 intro s a b c d m sz A B C D E hy
 obtain ⟨t,e⟩:=preK_R nm i (a:=a) (d:=d) (m:=m) (sz:=sz) hy.s.len hy.b hy.c fun x y _=>f x y fun v=>setK a v (nxF s sz) (zs s).l fun L nx=>finK s L nx (memO A B C D E)
 unfold twoR twoD
 rw [e,preD_R hy.s.len hy.b hy.c]
 have hr:=fine_zs hy.s
 have h2:rng64 (cond i (wu m) ((zs s).x.getD c.toNat 0))=true:=by
  cases i
  ·exact hr.rng _
  ·exact rng_wu _
 obtain ⟨v,hv,e1,e2⟩:=h _ _ (hr.rng b.toNat) h2
 rw [e1,e2,setK_R hy.a hr.len,putD_R hy.a hy.s.len,finK_R]
 exact both_fin hy.s (fine_set hr a hv) (nx_rng _ _) 0 hy.l
theorem one_op {f g:Int→Int→Int} (h:∀ x y,rng64 x=true→rng64 y=true→rng64 (f x y)=true∧g x y=f x y):OneV (opF f) (opF g):=fun x y hx hy =>
 ⟨f x y,(h x y hx hy).1,fun _=>rfl,fun k=>by unfold opF; rw [(h x y hx hy).2]⟩
end Go.Ra

namespace Go.Ra
open Go Go.Ab Go.Proofs
theorem i32_def (y:Int):IntKind.wrap .i32 y=if 2147483648≤y % 4294967296 then y % 4294967296 - 4294967296 else y % 4294967296:=by
 unfold IntKind.wrap
 simp [IntKind.bits,IntKind.signed]
theorem i16_def (y:Int):IntKind.wrap .i16 y=if 32768≤y % 65536 then y % 65536 - 65536 else y % 65536:=by
 unfold IntKind.wrap
 simp [IntKind.bits,IntKind.signed]
theorem i8_def (y:Int):IntKind.wrap .i8 y=if 128≤y % 256 then y % 256 - 256 else y % 256:=by
 unfold IntKind.wrap
 simp [IntKind.bits,IntKind.signed]
theorem u32_def (y:Int):IntKind.wrap .u32 y=y % 4294967296:=rfl
theorem u16_def (y:Int):IntKind.wrap .u16 y=y % 65536:=rfl
theorem u8_def (y:Int):IntKind.wrap .u8 y=y % 256:=rfl
theorem i32_cong {x y:Int} (h:x % 4294967296=y % 4294967296):IntKind.wrap .i32 x=IntKind.wrap .i32 y:=by
 rw [i32_def,i32_def,h]
theorem i32_bd (x:Int) : -2147483648≤IntKind.wrap .i32 x∧IntKind.wrap .i32 x<2147483648:=by
 rw [i32_def]
 split <;> omega
theorem wi_small {x:Int} (h0 : -9223372036854775808≤x) (h1:x<9223372036854775808):wi x=x:=by
 rw [wi_def]
 split <;> omega
theorem w32_eq (x:Int):w32 x=IntKind.wrap .i32 x:=by
 obtain ⟨h0,h1⟩:=i32_bd x
 exact wi_small (by omega) (by omega)
theorem s32_eq (x:Int):s32w x=IntKind.wrap .i32 x:=by
 have e:IntKind.wrap .i32 (x32 x)=IntKind.wrap .i32 x:=i32_cong (by unfold x32; rw [u32_def]; omega)
 obtain ⟨h0,h1⟩:=i32_bd x
 unfold s32w
 rw [e]
 exact wi_small (by omega) (by omega)
theorem wd_eq (x:Int):wd x=wu (IntKind.wrap .i32 x):=by
 unfold wd
 rw [w32_eq]
theorem wdD_eq (x:Int):wdD x=wd x:=by
 unfold wdD
 rw [s32_eq,wd_eq]
theorem wd_cong {x y:Int} (h:x % 4294967296=y % 4294967296):wd x=wd y:=by
 rw [wd_eq,wd_eq,i32_cong h]
theorem wd_wu (x:Int):wd (wu x)=wd x:=wd_cong (by rw [wu_def]; omega)
theorem wd_u32 (x:Int):wd (IntKind.wrap .u32 x)=wd x:=wd_cong (by rw [u32_def]; omega)
theorem rng_wd (x:Int):rng64 (wd x)=true:=rng_wu _
theorem u32_eq (x:Int):u32 x=x32 x:=by
 unfold u32 x32
 rw [wu_def,u32_def]
 omega
theorem and_low (y:Int) (w k:Nat) (hk:k≤w):((BitVec.ofInt w y &&& BitVec.ofInt w (2 ^ k - 1)).toNat:Int)=y % 2 ^ k:=by
 have e1:(BitVec.ofInt w (2 ^ k - 1)).toNat=2 ^ k - 1:=by
  rw [BitVec.toNat_ofInt]
  have hp:2 ^ k≤2 ^ w:=Nat.pow_le_pow_right (by decide) hk
  have h1:1≤2 ^ k:=Nat.one_le_two_pow
  have e:((2:Int) ^ k - 1)=((2 ^ k - 1:Nat):Int):=by
   rw [Int.ofNat_sub h1]
   simp
  rw [e]
  have e2:(((2 ^ w:Nat)):Int)=((2:Int) ^ w):=by simp
  rw [← Int.natCast_emod,Int.toNat_natCast,Nat.mod_eq_of_lt (by omega)]
 rw [BitVec.toNat_and,e1,Nat.and_two_pow_sub_one_eq_mod,BitVec.toNat_ofInt]
 have hp:(0:Int)<((2 ^ w:Nat):Int):=by
  have:0<2 ^ w:=Nat.two_pow_pos w
  omega
 have h0:=Int.emod_nonneg y (Int.ne_of_gt hp)
 rw [Int.natCast_emod,Int.toNat_of_nonneg h0]
 have e2:((2 ^ k:Nat):Int)=(2:Int) ^ k:=by simp
 rw [e2]
 refine Int.emod_emod_of_dvd y ?_
 rw [show ((2 ^ w:Nat):Int)=(2:Int) ^ w by simp]
 exact ⟨2 ^ (w - k),by rw [← Int.pow_add,Nat.add_sub_cancel' hk]⟩
theorem andU_31 (y:Int):andU y 31=y % 32:=by
 have h:=and_low y 64 5 (by decide)
 have e:andU y 31=wu ((BitVec.ofInt 64 y &&& BitVec.ofInt 64 (2 ^ 5 - 1)).toNat:Int):=rfl
 rw [e,h,wu_def]
 omega
theorem andU_63 (y:Int):andU y 63=y % 64:=by
 have h:=and_low y 64 6 (by decide)
 have e:andU y 63=wu ((BitVec.ofInt 64 y &&& BitVec.ofInt 64 (2 ^ 6 - 1)).toNat:Int):=rfl
 rw [e,h,wu_def]
 omega
theorem and31w_eq (y:Int):and31w y=y % 32:=by
 have h:=and_low (x32 y) 32 5 (by decide)
 have e:and31w y=IntKind.wrap .u32 ((BitVec.ofInt 32 (x32 y) &&& BitVec.ofInt 32 (2 ^ 5 - 1)).toNat:Int):=rfl
 rw [e,h,u32_def]
 unfold x32
 rw [u32_def]
 omega
theorem one_self {f:Int→Int→Int} (h:∀ x y,rng64 x=true→rng64 y=true→rng64 (f x y)=true):OneV (opF f) (opF f):=one_op fun x y hx hy=>⟨h x y hx hy,rfl⟩
theorem one_sh {g:Int→Int→Int} (h:∀ x y,rng64 x=true→rng64 (g x y)=true):OneV (shF 63 g) (shF 63 g):=fun x y hx _=>by
 have e:decide (0≤andU y 63)=true:=decide_eq_true (by rw [andU_63]; omega)
 refine ⟨g x (andU y 63),h _ _ hx,fun k=>?_,fun k=>?_⟩ <;> (unfold shF; rw [e]; rfl)
theorem shr_rng (x y:Int) (h:rng64 x=true):rng64 (shrF x y)=true:=by
 obtain ⟨h0,h1⟩:=rng_spec h
 have hp:(0:Int)≤2 ^ (min y.toNat 64):=Int.le_of_lt (Int.pow_pos (by decide))
 have e:shrF x y=x / 2 ^ (min y.toNat 64):=Int.fdiv_eq_ediv_of_nonneg _ hp
 have a:=Int.ediv_nonneg h0 hp
 have b:=Int.ediv_le_self (2 ^ (min y.toNat 64)) h0
 rw [← e] at a b
 exact rng_of a (by omega)
theorem bit_rng (b:Bool):rng64 (bitF b)=true:=by cases b <;> rfl
theorem one_shw {g h:Int→Int→Int} (hr:∀ x n,rng64 (g x n)=true) (he:∀ x n,rng64 x=true→0≤n→n<32→h x n=g x n):OneV (shF 31 g) (shD h):=fun x y hx _=>by
 have e:decide (0≤andU y 31)=true:=decide_eq_true (by rw [andU_31]; omega)
 have e2:decide (0≤and31w y)=true:=decide_eq_true (by rw [and31w_eq]; omega)
 refine ⟨g x (andU y 31),hr _ _,fun k=>?_,fun k=>?_⟩
 ·unfold shF
  rw [e]
  rfl
 ·unfold shD
  rw [e2,and31w_eq,andU_31,he _ _ hx (by omega) (by omega)]
  rfl
theorem sll_eq (x n:Int) (h0:0≤n) (h1:n<32):sllD x n=wd (shlF x n):=by
 have e:min n.toNat 32=n.toNat:=by omega
 have e2:min n.toNat 64=n.toNat:=by omega
 unfold sllD
 rw [wdD_eq,wd_wu,wd_u32,e]
 show wd (x32 x*2 ^ n.toNat)=wd (wu (x*2 ^ (min n.toNat 64)))
 rw [wd_wu,e2]
 refine wd_cong ?_
 unfold x32
 rw [u32_def,Int.mul_emod,Int.emod_emod_of_dvd _ (Int.dvd_refl _),← Int.mul_emod]
theorem srl_eq (x n:Int):srlD x n=srlwF x n:=wdD_eq _
theorem sra_eq (x n:Int) (h0:0≤n) (h1:n<32):sraD x n=srawF x n:=by
 have e:min n.toNat 32=n.toNat:=by omega
 have e2:min n.toNat 64=n.toNat:=by omega
 unfold sraD srawF
 rw [wdD_eq,wd_wu,wd_eq,s32_eq,e,e2]
 obtain ⟨b0,b1⟩:=i32_bd x
 generalize IntKind.wrap .i32 x=v at b0 b1
 have hp:(1:Int)≤2 ^ n.toNat:=by
  have:(0:Int)<2 ^ n.toNat:=Int.pow_pos (by decide)
  omega
 generalize (2:Int) ^ n.toNat=p at hp
 rw [Int.fdiv_eq_ediv_of_nonneg _ (by omega)]
 have c0 : -2147483648≤v / p:=by
  refine (Int.le_ediv_iff_mul_le (by omega)).2 ?_
  omega
 have c1:v / p<2147483648:=by
  refine (Int.ediv_lt_iff_lt_mul (by omega)).2 ?_
  omega
 generalize v / p=z at c0 c1
 have e3:IntKind.wrap .i32 z=z:=by
  rw [i32_def]
  split <;> omega
 rw [e3,wi_small (by omega) (by omega)]
theorem dq_eq (a b:Int):dqF a b=wu (quF a b):=by
 unfold dqF quF
 cases b == 0
 ·cases b == -1 <;> rfl
 ·rfl
theorem dr_eq (a b:Int):drF a b=wu (reF a b):=by
 unfold drF reF
 cases b == 0
 ·cases b == -1 <;> rfl
 ·rfl
theorem uq_rng (x y:Int):rng64 (uqF x y)=true:=by
 unfold uqF
 cases y == 0
 ·exact rng_wu _
 ·rfl
theorem tmod_rng {x y:Int} (hx:rng64 x=true):rng64 (Int.tmod x y)=true:=by
 obtain ⟨x0,x1⟩:=rng_spec hx
 have h1:Int.tmod x y=x % y:=Int.tmod_eq_emod_of_nonneg x0
 by_cases hy:y=0
 ·subst hy
  rw [Int.tmod_zero]
  exact hx
 ·have a:=Int.emod_nonneg x hy
  have b:x % y≤x:=by
   have e:=Int.emod_add_mul_ediv x y
   have:0≤y*(x / y):=by
    by_cases hp:0≤y
    ·exact Int.mul_nonneg hp (Int.ediv_nonneg x0 hp)
    ·exact Int.mul_nonneg_of_nonpos_of_nonpos (by omega) (Int.ediv_nonpos_of_nonneg_of_nonpos x0 (by omega))
   omega
  rw [h1]
  exact rng_of a (by omega)
theorem ur_rng {x y:Int} (hx:rng64 x=true):rng64 (urF x y)=true:=by
 unfold urF
 cases y == 0
 ·exact tmod_rng hx
 ·exact hx
theorem one_divu:OneV (opF uqF) divuD:=fun x y _ _=>by
 refine ⟨uqF x y,uq_rng x y,fun k=>rfl,fun k=>?_⟩
 unfold divuD uqF q
 by_cases h0:y=0
 ·subst h0
  rfl
 ·have e:(y == 0)=false:=by simpa using h0
  rw [e,decide_eq_false h0]
  rfl
theorem one_remu:OneV (opF urF) remuD:=fun x y hx _=>by
 refine ⟨urF x y,ur_rng hx,fun k=>rfl,fun k=>?_⟩
 unfold remuD urF q
 by_cases h0:y=0
 ·subst h0
  rfl
 ·have e:(y == 0)=false:=by simpa using h0
  rw [e,decide_eq_false h0]
  rfl
theorem one_divuw:OneV (opF fun x y=>wd (uqF (u32 x) (u32 y))) divuwD:=fun x y _ _=>by
 refine ⟨_,rng_wd _,fun k=>rfl,fun k=>?_⟩
 unfold divuwD uqF q
 rw [u32_eq,u32_eq]
 by_cases h0:x32 y=0
 ·rw [h0]
  rfl
 ·have e:(x32 y == 0)=false:=by simpa using h0
  rw [e,decide_eq_false h0,wdD_eq,wd_wu,wd_u32]
  show k _=k (wd (wu _))
  rw [wd_wu]
theorem one_remuw:OneV (opF fun x y=>wd (urF (u32 x) (u32 y))) remuwD:=fun x y _ _=>by
 refine ⟨_,rng_wd _,fun k=>rfl,fun k=>?_⟩
 unfold remuwD urF q
 rw [u32_eq,u32_eq]
 by_cases h0:x32 y=0
 ·rw [h0,wdD_eq]
  show k (wd x)=k (wd (x32 x))
  unfold x32
  rw [wd_u32]
 ·have e:(x32 y == 0)=false:=by simpa using h0
  rw [e,decide_eq_false h0]
  show k (wdD (wu _))=k (wd _)
  rw [wdD_eq,wd_wu]
  rfl
def WdOk (wd:Int→Int→Int × Int):Prop:=∀ x y,rng64 x=true→rng64 y=true→(wd x y).1=mulHi x y∧(wd x y).2=wu (x*y)
theorem mulHi_rng {x y:Int} (hx:rng64 x=true) (hy:rng64 y=true):rng64 (mulHi x y)=true:=by
 obtain ⟨x0,x1⟩:=rng_spec hx
 obtain ⟨y0,y1⟩:=rng_spec hy
 refine rng_of (Int.ediv_nonneg (Int.mul_nonneg x0 y0) (by decide)) ?_
 refine (Int.ediv_lt_iff_lt_mul (by decide)).2 ?_
 have a:=Int.mul_le_mul_of_nonneg_right (show x≤18446744073709551615 by omega) y0
 have b:=Int.mul_le_mul_of_nonneg_left (show y≤18446744073709551615 by omega) (show (0:Int)≤18446744073709551615 by decide)
 omega
theorem one_mu {wd:Int→Int→Int × Int} (hw:WdOk wd) {g:Int→Int→Int} {h:Int→Int→Int} (hr:∀ x y,rng64 x=true→rng64 y=true→rng64 (g x y)=true) (he:∀ x y,rng64 x=true→rng64 y=true→h x y=g x y):OneV (muF g) (opF h):=fun x y hx hy=>by
 refine ⟨g x y,hr x y hx hy,fun k=>?_,fun k=>?_⟩
 ·unfold muF
  rw [hx,hy]
  rfl
 ·unfold opF
  rw [he x y hx hy]
theorem hi_rng {h a b:Int} {u:Bool} (hh:rng64 h=true):rng64 (hiF a b u h)=true:=by
 unfold hiF
 cases negB a <;> cases negB b <;> cases u <;> first | exact hh | exact rng_wu _
theorem mh_hi (h a b:Int):mhF h a b true true=hiF a b false h:=by
 unfold mhF hiF
 cases negB a <;> cases negB b <;> rfl
theorem mh_hiu (h a b:Int):mhF h a b true false=hiF a b true h:=by
 unfold mhF hiF
 cases negB a <;> cases negB b <;> rfl
theorem ext56 (x:Int):sg1 x=extF 56 x:=by
 have e:∀ y,shrF y 56=y / 72057594037927936:=fun y=>Int.fdiv_eq_ediv_of_nonneg _ (by decide)
 have e2:shlF x 56=(x*72057594037927936) % 18446744073709551616:=rfl
 unfold sg1 extF
 rw [e,e2,u8_def,i8_def,wi_def ((x*72057594037927936) % 18446744073709551616),wu_def,wu_def,wi_def]
 split <;> split <;> split <;> omega
theorem ext48 (x:Int):sg2 x=extF 48 x:=by
 have e:∀ y,shrF y 48=y / 281474976710656:=fun y=>Int.fdiv_eq_ediv_of_nonneg _ (by decide)
 have e2:shlF x 48=(x*281474976710656) % 18446744073709551616:=rfl
 unfold sg2 extF
 rw [e,e2,u16_def,i16_def,wi_def ((x*281474976710656) % 18446744073709551616),wu_def,wu_def,wi_def]
 split <;> split <;> split <;> omega
theorem ext32 (x:Int):wdD x=extF 32 x:=by
 have e:∀ y,shrF y 32=y / 4294967296:=fun y=>Int.fdiv_eq_ediv_of_nonneg _ (by decide)
 have e2:shlF x 32=(x*4294967296) % 18446744073709551616:=rfl
 rw [wdD_eq,wd_eq]
 unfold extF
 rw [e,e2,i32_def,wi_def,wu_def,wu_def]
 split <;> split <;> omega
theorem lui_eq (m:Int):wu (wu m*2 ^ 12)=uF m:=by
 unfold uF
 rw [wu_def,wu_def,wu_def,wi_def]
 show (m % 18446744073709551616*4096) % 18446744073709551616=_
 have:(m*2 ^ 12:Int)=m*4096:=rfl
 rw [this]
 split <;> omega
end Go.Ra

namespace Go.Ra
open Go Go.Ab Go.Proofs
def adF (s:CpuT) (b m:Int):Int:=wu (s.x.getD b.toNat 0+wu m)
theorem adF_rng (s:CpuT) (b m:Int):rng64 (adF s b m)=true:=rng_wu _
theorem rng_ldN {A B C D E:List Int} {x:Int}:∀ (n:Nat) (v:Int),rng64 v=true→rng64 (ldN A B C D E x n v)=true
 | 0,_,h=>h
 | n+1,v,_=>rng_ldN n _ (rng_wu _)
theorem valLd_rng (A B C D E:List Int) (x n:Int):rng64 (valLd A B C D E x n)=true:=by
 unfold valLd
 cases mayB x n 4
 ·rfl
 ·exact rng_ldN _ 0 rfl
theorem atF_R {s:CpuT} {b:Int} (hs:s.x.length=32) (hb:okReg b=true) (m:Int) (t:List V):atF b m (s.l++t)=adF s b m:=by
 unfold atF adF
 rw [xAt_eq hs hb]
theorem atF_R0 {s:CpuT} {b:Int} (hs:s.x.length=32) (hb:okReg b=true) (m:Int):atF b m s.l=adF s b m:=by
 unfold atF adF
 rw [xAt_eq0 hs hb]
theorem al_ld (nm:List UInt8) (n:Int) {f g:Int→Int} (hg:∀ x,g x=f x) (hf:∀ x,rng64 x=true→rng64 (f x)=true):Alike (ldR nm n f) (ldD n g):=by
 intro s a b c d m sz A B C D E hy
 obtain ⟨t,e⟩:=preK_R nm true (a:=a) (d:=d) (m:=m) (sz:=sz) hy.s.len hy.b hy.c fun _ _ S=>inX b S (q (lens5 A B C D E) (q (rng64 (atF b m S) && true) (cond (errLd (atF b m S) n != 0) (errK s 21 (memO A B C D E))
  (setK a (f (valLd A B C D E (atF b m S) n)) (nxF s sz) (zs s).l fun L nx=>finK s L nx (memO A B C D E)))))
 unfold ldR ldD
 rw [e,preD_R hy.s.len hy.b hy.c]
 have hr:=fine_zs hy.s
 rw [inX_eq hr.len hy.b,inX_eq0 hr.len hy.b,atF_R hr.len hy.b,atF_R0 hr.len hy.b,hy.l,adF_rng,hg]
 unfold q errLd
 simp only [Bool.and_self,cond_true]
 cases mayB (adF (zs s) b m) n 4
 ·exact both_err hy.s 21 hy.l
 ·simp only [cond_true,bne_self_eq_false,cond_false]
  rw [setK_R hy.a hr.len,putD_R hy.a hy.s.len,finK_R]
  exact both_fin hy.s (fine_set hr a (hf _ (valLd_rng _ _ _ _ _ _ _))) (nx_rng _ _) 0 hy.l
theorem lens5_stB {A B C D E:List Int} (h:lens5 A B C D E=true) (x n y:Int):lens5 (stB 1 x n y A) (stB 2 x n y B) (stB 16 x n y C) (stB 17 x n y D) (stB 32 x n y E)=true:=by
 unfold stB
 cases mayB x n 2
 ·exact h
 ·exact lens5_stN _ _ h
theorem stK_R {x:Int} (hx:rng64 x=true) (n v:Int) {A B C D E:List Int} (hl:lens5 A B C D E=true) (k:List Int→List Int→List Int→List Int→List Int→Option Res) :
  stK x n v A B C D E k=k (stB 1 x n v A) (stB 2 x n v B) (stB 16 x n v C) (stB 17 x n v D) (stB 32 x n v E):=by
 unfold stK q
 rw [hl,hx]
 rfl
theorem al_st (nm:List UInt8) (n:Int):Alike (strR nm n) (strD n):=by
 intro s a b c d m sz A B C D E hy
 obtain ⟨t,e⟩:=preK_R nm false (a:=a) (d:=d) (m:=m) (sz:=sz) hy.s.len hy.b hy.c fun _ _ S=>inX b S (inX c S (stK (atF b m S) n (xAt c S) A B C D E fun A' B' C' D' E' =>
  cond (errSt (atF b m S) n != 0) (errK s 21 (memO A' B' C' D' E')) (finK s (zs s).l (nxF s sz) (memO A' B' C' D' E'))))
 unfold strR strD
 rw [e,preD_R hy.s.len hy.b hy.c]
 have hr:=fine_zs hy.s
 rw [inX_eq hr.len hy.b,inX_eq hr.len hy.c,inX_eq0 hr.len hy.b,inX_eq0 hr.len hy.c,atF_R hr.len hy.b,atF_R0 hr.len hy.b,xAt_eq hr.len hy.c,xAt_eq0 hr.len hy.c,stK_R (adF_rng _ _ _) _ _ hy.l,stK_R (adF_rng _ _ _) _ _ hy.l]
 have hl:=lens5_stB hy.l (adF (zs s) b m) n ((zs s).x.getD c.toNat 0)
 unfold errSt
 cases mayB (adF (zs s) b m) n 2
 ·exact both_err hy.s 21 hl
 ·simp only [cond_true,bne_self_eq_false,cond_false]
  rw [finD_R hy.s.len,finK_R]
  exact both_fin hy.s hr (nx_rng _ _) 0 hl
theorem elR_R (nm:List UInt8) (i:Bool) (f:JTy) {s:CpuT} {a b c d m sz:Int} {A B C D E:List Int} (hy:Hy s a b c A B C D E) :
  elR nm i f s a b c d m sz A B C D E=f s a ((zs s).x.getD b.toNat 0) ((zs s).x.getD c.toNat 0) m (nxF s sz) (zs s).l fun L nx=>finK s L nx (memO A B C D E):=by
 obtain ⟨t,e⟩:=preK_R nm i (a:=a) (d:=d) (m:=m) (sz:=sz) hy.s.len hy.b hy.c fun _ _ S=>inX b S (inX b S (inX c S (f s a (xAt b S) (xAt c S) m (nxF s sz) (zs s).l fun L nx=>finK s L nx (memO A B C D E))))
 have hr:=fine_zs hy.s
 unfold elR
 rw [e,inX_eq hr.len hy.b,inX_eq hr.len hy.b,inX_eq hr.len hy.c,xAt_eq hr.len hy.b,xAt_eq hr.len hy.c]
theorem al_br (nm:List UInt8) (i:Bool) (g:Int→Int→Bool):Alike (elR nm i (brJ g)) (brD g):=by
 intro s a b c d m sz A B C D E hy
 have hr:=fine_zs hy.s
 rw [elR_R nm i _ hy]
 unfold brD brJ
 rw [preD_R hy.s.len hy.b hy.c,finD_R hy.s.len,finD_R hy.s.len]
 cases g _ _
 ·exact both_fin hy.s hr (nx_rng _ _) 0 hy.l
 ·exact both_fin hy.s hr (rng_wu _) 0 hy.l
theorem pcS_eq {a:Int} (v pc:Int):pcS a v pc=pc:=by
 unfold pcS
 have:Nat.beq 0 (1+a.toNat*1)=false:=by
  cases h:Nat.beq 0 (1+a.toNat*1)
  ·rfl
  ·have:=Nat.eq_of_beq_eq_true h
   omega
 rw [this]
 rfl
theorem al_jal (nm:List UInt8) (i:Bool):Alike (elR nm i jalJ) jalD:=by
 intro s a b c d m sz A B C D E hy
 have hr:=fine_zs hy.s
 rw [elR_R nm i _ hy]
 unfold jalD jalJ
 rw [preD_R hy.s.len hy.b hy.c,putD_R hy.a hy.s.len,setK_R hy.a hr.len,pcS_eq]
 rw [finK_R]
 exact both_fin hy.s (fine_set hr a (nx_rng _ _)) (rng_wu _) 0 hy.l
theorem al_jalr (nm:List UInt8) (i:Bool):Alike (elR nm i jalrJ) jalrD:=by
 intro s a b c d m sz A B C D E hy
 have hr:=fine_zs hy.s
 rw [elR_R nm i _ hy]
 unfold jalrD jalrJ
 rw [preD_R hy.s.len hy.b hy.c,putD_R hy.a hy.s.len,setK_R hy.a hr.len,finK_R]
 exact both_fin hy.s (fine_set hr a (nx_rng _ _)) (rng_wu _) 0 hy.l
theorem al_lui (nm:List UInt8) (i:Bool):Alike (elR nm i luiJ) luiD:=by
 intro s a b c d m sz A B C D E hy
 have hr:=fine_zs hy.s
 rw [elR_R nm i _ hy]
 unfold luiD luiJ
 rw [preD_R hy.s.len hy.b hy.c,putD_R hy.a hy.s.len,setK_R hy.a hr.len,finK_R,lui_eq]
 exact both_fin hy.s (fine_set hr a (rng_wu _)) (nx_rng _ _) 0 hy.l
theorem al_auipc (nm:List UInt8) (i:Bool):Alike (elR nm i auipcJ) auipcD:=by
 intro s a b c d m sz A B C D E hy
 have hr:=fine_zs hy.s
 rw [elR_R nm i _ hy]
 unfold auipcD auipcJ
 rw [preD_R hy.s.len hy.b hy.c,putD_R hy.a hy.s.len,setK_R hy.a hr.len,finK_R,lui_eq]
 exact both_fin hy.s (fine_set hr a (rng_wu _)) (nx_rng _ _) 0 hy.l
end Go.Ra

namespace Go.Ra
open Go Go.Ab Go.Proofs
def AlikeN (r g:RunTy):Prop:=∀ s a b c d m sz A B C D E,Hy s a b c A B C D E→Int.tmod (nxF s sz) 2=0→Both s (r s a b c d m sz A B C D E) (g s a b c d m sz A B C D E)
theorem an {r g:RunTy} (h:Alike r g):AlikeN r g:=fun s a b c d m sz A B C D E hy _=>h s a b c d m sz A B C D E hy
theorem al_ecall:AlikeN ecallR ecallD:=by
 intro s a b c d m sz A B C D E hy hn
 unfold ecallD ecallR
 rw [preD_R hy.s.len hy.b hy.c,finD_R hy.s.len]
 unfold finC
 rw [hn]
 exact both_out (s' := { zs s with pc:=nxF s sz }) ⟨zs_len hy.s.len,(fine_zs hy.s).rng,nx_rng _ _⟩ 1 hy.l
theorem al_ebreak:Alike ebreakR ebreakD:=by
 intro s a b c d m sz A B C D E hy
 unfold ebreakD ebreakR
 rw [preD_R hy.s.len hy.b hy.c]
 exact both_out (fine_zs hy.s) 2 hy.l
def AllA:List (List UInt8 × RunTy)→List (List UInt8 × RunTy)→Prop
 | x :: r,y :: t=>x.1=y.1∧AlikeN x.2 y.2∧AllA r t
 | _,_=>True
theorem all_alike (wd:Int→Int→Int × Int) (hw:WdOk wd):AllA rowsR (rowsG wd):=
 ⟨rfl,an (al_two _ _ (one_self fun _ _ _ _=>rng_wu _)),
  rfl,an (al_two _ _ (one_self fun _ _ _ _=>rng_wu _)),
  rfl,an (al_two _ _ (one_sh fun _ _ _=>rng_wu _)),
  rfl,an (al_two _ _ (one_self fun _ _ _ _=>bit_rng _)),
  rfl,an (al_two _ _ (one_self fun _ _ _ _=>bit_rng _)),
  rfl,an (al_two _ _ (one_self fun _ _ _ _=>rng_wu _)),
  rfl,an (al_two _ _ (one_sh shr_rng)),
  rfl,an (al_two _ _ (one_sh fun _ _ _=>rng_wu _)),
  rfl,an (al_two _ _ (one_self fun _ _ _ _=>rng_wu _)),
  rfl,an (al_two _ _ (one_self fun _ _ _ _=>rng_wu _)),
  rfl,an (al_two _ _ (one_op fun x y hx hy=>⟨rng_wu _,(hw x y hx hy).2⟩)),
  rfl,an (al_two _ _ (one_mu hw (fun _ _ hx hy=>hi_rng (mulHi_rng hx hy)) fun x y hx hy=>by rw [(hw x y hx hy).1,mh_hi])),
  rfl,an (al_two _ _ (one_mu hw (fun _ _ hx hy=>hi_rng (mulHi_rng hx hy)) fun x y hx hy=>by rw [(hw x y hx hy).1,mh_hiu])),
  rfl,an (al_two _ _ (one_mu hw (fun _ _ hx hy=>mulHi_rng hx hy) fun x y hx hy=>(hw x y hx hy).1)),
  rfl,an (al_two _ _ (one_op fun x y _ _=>⟨by rw [dq_eq]; exact rng_wu _,(dq_eq _ _).symm⟩)),
  rfl,an (al_two _ _ (one_divu)),
  rfl,an (al_two _ _ (one_op fun x y _ _=>⟨by rw [dr_eq]; exact rng_wu _,(dr_eq _ _).symm⟩)),
  rfl,an (al_two _ _ (one_remu)),
  rfl,an (al_two _ _ (one_op fun x y _ _=>⟨rng_wd _,wdD_eq _⟩)),
  rfl,an (al_two _ _ (one_op fun x y _ _=>⟨rng_wd _,wdD_eq _⟩)),
  rfl,an (al_two _ _ (one_shw (fun _ _=>rng_wd _) fun x n _ h0 h1=>sll_eq x n h0 h1)),
  rfl,an (al_two _ _ (one_shw (fun _ _=>rng_wd _) fun x n _ _ _=>srl_eq x n)),
  rfl,an (al_two _ _ (one_shw (fun _ _=>rng_wu _) fun x n _ h0 h1=>sra_eq x n h0 h1)),
  rfl,an (al_two _ _ (one_op fun x y _ _=>⟨rng_wd _,wdD_eq _⟩)),
  rfl,an (al_two _ _ (one_op fun x y _ _=>⟨rng_wd _,by rw [wdD_eq,dq_eq,s32_eq,s32_eq,w32_eq,w32_eq]⟩)),
  rfl,an (al_two _ _ (one_divuw)),
  rfl,an (al_two _ _ (one_op fun x y _ _=>⟨rng_wd _,by rw [wdD_eq,dr_eq,s32_eq,s32_eq,w32_eq,w32_eq]⟩)),
  rfl,an (al_two _ _ (one_remuw)),
  rfl,an (al_two _ _ (one_self fun _ _ _ _=>rng_wu _)),
  rfl,an (al_two _ _ (one_self fun _ _ _ _=>bit_rng _)),
  rfl,an (al_two _ _ (one_self fun _ _ _ _=>bit_rng _)),
  rfl,an (al_two _ _ (one_self fun _ _ _ _=>rng_wu _)),
  rfl,an (al_two _ _ (one_self fun _ _ _ _=>rng_wu _)),
  rfl,an (al_two _ _ (one_self fun _ _ _ _=>rng_wu _)),
  rfl,an (al_two _ _ (one_op fun x y _ _=>⟨rng_wd _,wdD_eq _⟩)),
  rfl,an (al_ld _ _ ext56 fun _ _=>rng_wu _),
  rfl,an (al_ld _ _ ext48 fun _ _=>rng_wu _),
  rfl,an (al_ld _ _ ext32 fun _ _=>rng_wu _),
  rfl,an (al_ld _ _ (f:=fun x=>x) (g:=fun x=>x) (fun _=>rfl) fun _ h=>h),
  rfl,an (al_ld _ _ (f:=fun x=>x) (g:=fun x=>x) (fun _=>rfl) fun _ h=>h),
  rfl,an (al_ld _ _ (f:=fun x=>x) (g:=fun x=>x) (fun _=>rfl) fun _ h=>h),
  rfl,an (al_ld _ _ (f:=fun x=>x) (g:=fun x=>x) (fun _=>rfl) fun _ h=>h),
  rfl,an (al_jalr _ _),
  rfl,an (al_two _ _ (one_sh fun _ _ _=>rng_wu _)),
  rfl,an (al_two _ _ (one_sh shr_rng)),
  rfl,an (al_two _ _ (one_sh fun _ _ _=>rng_wu _)),
  rfl,an (al_two _ _ (one_shw (fun _ _=>rng_wd _) fun x n _ h0 h1=>sll_eq x n h0 h1)),
  rfl,an (al_two _ _ (one_shw (fun _ _=>rng_wd _) fun x n _ _ _=>srl_eq x n)),
  rfl,an (al_two _ _ (one_shw (fun _ _=>rng_wu _) fun x n _ h0 h1=>sra_eq x n h0 h1)),
  rfl,an (al_st _ _),
  rfl,an (al_st _ _),
  rfl,an (al_st _ _),
  rfl,an (al_st _ _),
  rfl,an (al_br _ _ _),
  rfl,an (al_br _ _ _),
  rfl,an (al_br _ _ _),
  rfl,an (al_br _ _ _),
  rfl,an (al_br _ _ _),
  rfl,an (al_br _ _ _),
  rfl,an (al_lui _ _),
  rfl,an (al_auipc _ _),
  rfl,an (al_jal _ _),
  rfl,al_ecall,
  rfl,an (al_ebreak),trivial⟩
theorem allA_get:∀ {l t:List (List UInt8 × RunTy)},AllA l t→l.length=t.length → ∀ x ∈ l,∃ y ∈ t,x.1=y.1∧AlikeN x.2 y.2
 | [],_,_,_,x,hx=>by cases hx
 | _ :: _,[],_,hl,_,_=>by cases hl
 | a :: r,b :: t,h,hl,x,hx=>by
  rcases List.mem_cons.1 hx with rfl | hx
  ·exact ⟨b,List.mem_cons_self,h.1,h.2.1⟩
  ·obtain ⟨y,hy,e⟩:=allA_get h.2.2 (by simpa using hl) x hx
   exact ⟨y,List.mem_cons_of_mem _ hy,e⟩
end Go.Ra

namespace Go.Ra
open Go Go.Ab Go.Proofs
theorem run_1 (mb:InsR→Bool):((rowsR.drop 0).take 8).map (rO mb)=((rowsR.drop 0).take 8).map (rE mb):=by kernel_rfl
end Go.Ra

namespace Go.Ra
open Go Go.Ab Go.Proofs
theorem run_2 (mb:InsR→Bool):((rowsR.drop 8).take 8).map (rO mb)=((rowsR.drop 8).take 8).map (rE mb):=by kernel_rfl
end Go.Ra

namespace Go.Ra
open Go Go.Ab Go.Proofs
theorem run_3 (mb:InsR→Bool):((rowsR.drop 16).take 8).map (rO mb)=((rowsR.drop 16).take 8).map (rE mb):=by kernel_rfl
end Go.Ra

namespace Go.Ra
open Go Go.Ab Go.Proofs
theorem run_4 (mb:InsR→Bool):((rowsR.drop 24).take 8).map (rO mb)=((rowsR.drop 24).take 8).map (rE mb):=by kernel_rfl
end Go.Ra
