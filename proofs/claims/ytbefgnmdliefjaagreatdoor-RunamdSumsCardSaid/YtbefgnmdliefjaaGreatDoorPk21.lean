/-
  The program's memory: numbers loaded and stored. Conditions: none.
-/
import Derived.Test.YtbefgnmdliefjaaGreatDoorPk20
import Derived.Test.YtbefgnmdliefjaaGreatDoorPk17
import Derived.Test.YtbefgnmdliefjaaGreatDoorPk16
import Derived.Test.YtbefgnmdliefjaaGreatDoorPk18
import Derived.Test.YtbefgnmdliefjaaGreatDoorPk19
import Derived.Lib.Mul64
set_option linter.unusedVariables false
set_option linter.unusedSimpArgs false
namespace Go.Ra
open Go Go.Ab Go.Proofs
noncomputable def cx29:Cx:={ P:=Tryz.prog,n:=17,tab:=[],mtab:=[],refs:=[],keeps:=[0,2] }
noncomputable def sizedS:Ab.Spec:=fun args=>.req (Nat.ble args.length Tryz.f29.ntmps) (dfun cx29 Tryz.f29 args)
theorem sizedS_ok:Sound Tryz.prog 29 sizedS:=sound_fun (cx:=cx29) (fn:=Tryz.f29) (cx0_ok rfl rfl) (by kernel_rfl) (by kernel_rfl)
noncomputable def cx145:Cx:={ P:=Tryz.prog,n:=41,tab:=[(29,sizedS)],mtab:=[(30,noneM),(31,mayM),(33,getM)],refs:=[],keeps:=[0,1,2,6,7,8,9,10,14,27],fuel:=9 }
noncomputable def cx13:Cx:={ P:=Tryz.prog,n:=40,tab:=[(29,sizedS)],mtab:=[(30,noneM),(31,mayM),(32,putM)],refs:=[],keeps:=[0,1,2,3,8,9,10,14,24,25,26],fuel:=9 }
def adr (x:Int) (i:Nat):Int:=IntKind.wrap .u64 (x+IntKind.wrap .u64 (i:Int))
def ldS (v b:Int):Int:=IntKind.wrap .u64 (((BitVec.ofInt 64 (IntKind.wrap .u64 (v*2 ^ 8)) ||| BitVec.ofInt 64 (IntKind.wrap .u64 b)).toNat:Nat):Int)
def usable (x:Int):Bool:=rng64 x && isPg (pgF x)
def ldGo (a b c d e:List Int) (x:Int):Nat→Int→Option Res
 | 0,v=>some (.ok (.tup [.int .u64 v,.int .i64 0]) (memO a b c d e))
 | m+1,v=>cond (true && lens5 a b c d e) (cond (usable (adr x m)) (ldGo a b c d e x m (ldS v (byteF a b c d e (adr x m)))) none) none
def ldX (n:Nat) (a b c d e:List Int) (x:Int):Option Res:=cond (true && lens5 a b c d e) (cond (rng64 x && true) (cond (!mayB x (n:Int) 4) (some (.ok (.tup [.int .u64 0,.int .i64 21]) (memO a b c d e))) (ldGo a b c d e x n 0)) none) none
noncomputable def ldE (n:Nat) (a b c d e:List Int) (x:Int):Option Res:=(mfun cx145 Tryz.f145 [.ptr 0 0,.int .u64 x,.int .i64 (n:Int)] (memO a b c d e)).fin
def byS (y:Int) (i:Nat):Int:=IntKind.wrap .u8 (Int.fdiv y (2 ^ (8*i)))
def stGo (x y:Int):Nat→Nat→List Int→List Int→List Int→List Int→List Int→Option Res
 | 0,_,a,b,c,d,e=>some (.ok (.int .i64 0) (memO a b c d e))
 | m+1,i,a,b,c,d,e=>cond (true && lens5 a b c d e) (cond (usable (adr x i)) (stGo x y m (i+1) (setF 1 (adr x i) (byS y i) a) (setF 2 (adr x i) (byS y i) b) (setF 16 (adr x i) (byS y i) c) (setF 17 (adr x i) (byS y i) d) (setF 32 (adr x i) (byS y i) e)) none) none
def stX (n:Nat) (a b c d e:List Int) (x y:Int):Option Res:=cond (true && lens5 a b c d e) (cond (rng64 x && true) (cond (!mayB x (n:Int) 2) (some (.ok (.int .i64 21) (memO a b c d e))) (stGo x y n 0 a b c d e)) none) none
noncomputable def stE (n:Nat) (a b c d e:List Int) (x y:Int):Option Res:=(mfun cx13 Tryz.f13 [.ptr 0 0,.int .u64 x,.int .i64 (n:Int),.int .u64 y] (memO a b c d e)).fin
theorem ld_all:[1,2,4,8].map ldE=[1,2,4,8].map ldX:=by kernel_rfl
theorem st_all:[1,2,4,8].map stE=[1,2,4,8].map stX:=by kernel_rfl
def szB (n:Int):Bool:=n == 1 || (n == 2 || (n == 4 || n == 8))
theorem szB_mem {n:Int} (h:szB n=true):∃ m:Nat,m ∈ [1,2,4,8]∧n=(m:Int):=by
 simp only [szB,Bool.or_eq_true,beq_iff_eq] at h
 rcases h with h | h | h | h
 ·exact ⟨1,by decide,h⟩
 ·exact ⟨2,by decide,h⟩
 ·exact ⟨4,by decide,h⟩
 ·exact ⟨8,by decide,h⟩
theorem okP_pg {r k:Int} (h:okP r k=true):isPg k=true:=by
 unfold okP pgR at h
 unfold isPg
 revert h
 cases k == 1 <;> cases k == 2 <;> cases k == 16 <;> cases k == 17 <;> cases k == 32 <;> intro h <;> first | rfl | cases h
theorem adr_eq {x n:Int} {r:Int} (h:rng64 x=true) (h1:1≤n) (h2:n≤16) (hm:mayB x n r=true) {i:Nat} (hi:(i:Int)<n):adr x i=x+i∧rng64 (x+i)=true:=by
 unfold mayB at hm
 obtain ⟨g1,_⟩:=Bool.and_eq_true_iff.1 hm
 have g1:=of_decide_eq_true g1
 have ey:=endF_eq h h1 h2 g1
 have hy:=endF_rng x n
 rw [ey] at hy
 simp only [rng64,Bool.and_eq_true,decide_eq_true_eq] at h hy ⊢
 have e:adr x i=(x+(i:Int) % 18446744073709551616) % 18446744073709551616:=rfl
 rw [e]
 omega
theorem usable_of {x n:Int} {r:Int} (h:rng64 x=true) (h1:1≤n) (h2:n≤16) (hm:mayB x n r=true) {i:Nat} (hi:(i:Int)<n):usable (adr x i)=true:=by
 obtain ⟨e1,e2⟩:=adr_eq h h1 h2 hm hi
 unfold usable
 rw [e1,e2,Bool.true_and]
 unfold mayB at hm
 obtain ⟨g1,g2⟩:=Bool.and_eq_true_iff.1 hm
 obtain ⟨g2,g3⟩:=Bool.and_eq_true_iff.1 g2
 have g1:=of_decide_eq_true g1
 have ey:=endF_eq h h1 h2 g1
 have hy:=endF_rng x n
 have px:=pgF_eq h
 have py:=pgF_eq hy
 have pi:=pgF_eq e2
 rcases Bool.or_eq_true_iff.1 g3 with g3 | g3
 ·have g3:pgF (endF x n)=pgF x:=by simpa using g3
  have:pgF (x+i)=pgF x:=by omega
  rw [this]
  exact okP_pg g2
 ·by_cases hq:pgF (x+i)=pgF x
  ·rw [hq]
   exact okP_pg g2
  ·have:pgF (x+i)=pgF (endF x n):=by omega
   rw [this]
   exact okP_pg g3
def ldN (a b c d e:List Int) (x:Int):Nat→Int→Int
 | 0,v=>v
 | m+1,v=>ldN a b c d e x m (ldS v (byteF a b c d e (adr x m)))
def stN (k x y:Int):Nat→Nat→List Int→List Int
 | 0,_,l=>l
 | m+1,i,l=>stN k x y m (i+1) (setF k (adr x i) (byS y i) l)
theorem ldGo_eq {a b c d e:List Int} {x:Int} (hl:lens5 a b c d e=true):∀ (m:Nat) (v:Int),(∀ i,i<m→usable (adr x i)=true)→ldGo a b c d e x m v=some (.ok (.tup [.int .u64 (ldN a b c d e x m v),.int .i64 0]) (memO a b c d e))
 | 0,_,_=>rfl
 | m+1,v,h=>by
  unfold ldGo ldN
  rw [hl,h m (by omega),Bool.and_true,cond_true,cond_true]
  exact ldGo_eq hl m _ fun i hi=>h i (by omega)
theorem setF_len (k x v:Int) (l:List Int):(setF k x v l).length=l.length:=by
 unfold setF
 cases pgF x == k
 ·rfl
 ·exact List.length_set
theorem pgB_set {l:List Int} (h:pgB l=true) (k x:Int) {v:Int} (hv:byteB v=true):pgB (setF k x v l)=true:=by
 unfold pgB at h ⊢
 rw [setF_len]
 obtain ⟨h1,h2⟩:=Bool.and_eq_true_iff.1 h
 rw [h1,Bool.true_and]
 unfold setF
 cases pgF x == k
 ·exact h2
 ·rw [cond_true,List.all_eq_true]
  intro y hy
  rcases List.mem_or_eq_of_mem_set hy with hy | rfl
  ·exact List.all_eq_true.1 h2 y hy
  ·exact hv
theorem byS_byte (y:Int) (i:Nat):byteB (byS y i)=true:=by
 unfold byteB byS
 have e:IntKind.wrap .u8 (Int.fdiv y (2 ^ (8*i)))=Int.fdiv y (2 ^ (8*i)) % 256:=rfl
 rw [e,Bool.and_eq_true_iff,decide_eq_true_iff,decide_eq_true_iff]
 omega
theorem lens5_set {a b c d e:List Int} (h:lens5 a b c d e=true) (x:Int) {v:Int} (hv:byteB v=true):lens5 (setF 1 x v a) (setF 2 x v b) (setF 16 x v c) (setF 17 x v d) (setF 32 x v e)=true:=by
 unfold lens5 at h ⊢
 simp only [Bool.and_eq_true] at h ⊢
 obtain ⟨h1,h2,h3,h4,h5⟩:=h
 exact ⟨pgB_set h1 _ _ hv,pgB_set h2 _ _ hv,pgB_set h3 _ _ hv,pgB_set h4 _ _ hv,pgB_set h5 _ _ hv⟩
theorem stGo_eq {x y:Int}:∀ (m i:Nat) {a b c d e:List Int},lens5 a b c d e=true→(∀ j,i≤j→j<i+m→usable (adr x j)=true) →
  stGo x y m i a b c d e=some (.ok (.int .i64 0) (memO (stN 1 x y m i a) (stN 2 x y m i b) (stN 16 x y m i c) (stN 17 x y m i d) (stN 32 x y m i e)))
 | 0,_,_,_,_,_,_,_,_=>rfl
 | m+1,i,a,b,c,d,e,hl,h=>by
  unfold stGo stN
  rw [hl,h i (by omega) (by omega),Bool.and_true,cond_true,cond_true]
  exact stGo_eq m (i+1) (lens5_set hl _ (byS_byte _ _)) fun j h1 h2=>h j (by omega) (by omega)
def loadM:MSpec:=fun args H=>match args with
 | [.ptr 0 0,.int .u64 x,.int .i64 n]=>memM (fun a b c d e=>.req (rng64 x && szB n) (.leaf (.ok (.tup [.int .u64 (cond (mayB x n 4) (ldN a b c d e x n.toNat 0) 0),.int .i64 (cond (mayB x n 4) 0 21)]) (memO a b c d e)))) H
 | _=>.fail
def stB (k x n y:Int) (l:List Int):List Int:=cond (mayB x n 2) (stN k x y n.toNat 0 l) l
def storeM:MSpec:=fun args H=>match args with
 | [.ptr 0 0,.int .u64 x,.int .i64 n,.int .u64 y]=>memM (fun a b c d e=>.req (rng64 x && szB n) (.leaf (.ok (.int .i64 (cond (mayB x n 2) 0 21)) (memO (stB 1 x n y a) (stB 2 x n y b) (stB 16 x n y c) (stB 17 x n y d) (stB 32 x n y e))))) H
 | _=>.fail
theorem loadM_ok:MSound Tryz.prog 145 loadM:=by
 intro args H out h
 unfold loadM at h
 split at h
 rotate_left
 ·cases h
 rename_i x n
 obtain ⟨a,b,c,d,e,rfl,hl,h⟩:=memM_run h
 obtain ⟨h1,h⟩:=req_run h
 cases h
 obtain ⟨hx,hn⟩:=Bool.and_eq_true_iff.1 h1
 obtain ⟨m,hm,rfl⟩:=szB_mem hn
 refine msound_fun (cx:=cx145) (fn:=Tryz.f145) (cx1_ok (ok1 sizedS_ok) (.cons noneM_ok (.cons mayM_ok (.cons getM_ok fun p h=>by cases h))) rfl rfl) (by kernel_rfl) (by kernel_rfl) _ _ _ ?_
 refine run_req (by kernel_rfl) ?_
 rw [← Tree.fin_run]
 refine (congrFun (congrFun (congrFun (congrFun (congrFun (congrFun (List.map_inj_left.1 ld_all _ hm) a) b) c) d) e) x).trans ?_
 have hm1:1≤m∧m≤16:=by
  simp only [List.mem_cons,List.not_mem_nil,or_false] at hm
  omega
 unfold ldX
 rw [hl,hx]
 cases hb:mayB x (m:Int) 4
 ·rfl
 ·exact ldGo_eq hl m 0 fun i hi=>usable_of hx (by omega) (by omega) hb (by omega)
theorem storeM_ok:MSound Tryz.prog 13 storeM:=by
 intro args H out h
 unfold storeM at h
 split at h
 rotate_left
 ·cases h
 rename_i x n y
 obtain ⟨a,b,c,d,e,rfl,hl,h⟩:=memM_run h
 obtain ⟨h1,h⟩:=req_run h
 cases h
 obtain ⟨hx,hn⟩:=Bool.and_eq_true_iff.1 h1
 obtain ⟨m,hm,rfl⟩:=szB_mem hn
 refine msound_fun (cx:=cx13) (fn:=Tryz.f13) (cx1_ok (ok1 sizedS_ok) (.cons noneM_ok (.cons mayM_ok (.cons putM_ok fun p h=>by cases h))) rfl rfl) (by kernel_rfl) (by kernel_rfl) _ _ _ ?_
 refine run_req (by kernel_rfl) ?_
 rw [← Tree.fin_run]
 refine (congrFun (congrFun (congrFun (congrFun (congrFun (congrFun (congrFun (List.map_inj_left.1 st_all _ hm) a) b) c) d) e) x) y).trans ?_
 have hm1:1≤m∧m≤16:=by
  simp only [List.mem_cons,List.not_mem_nil,or_false] at hm
  omega
 unfold stX stB
 rw [hl,hx]
 cases hb:mayB x (m:Int) 2
 ·rfl
 ·exact stGo_eq m 0 hl fun i _ hi=>usable_of hx (by omega) (by omega) hb (by omega)
end Go.Ra

namespace Go.Ra
open Go Go.Ab Go.Proofs
def isStart (x:Int):Bool:=x == 4096 || (x == 8192 || (x == 65536 || (x == 69632 || x == 131072)))
def isBase (x:Int):Bool:=x == 4096 || x == 65536
def bigOk (x n r:Int):Bool:=n == 0 || ((isBase x && (decide (1≤n) && (decide (n≤8192) && r == 0))) || (isStart x && (n == 4096 && r == 4)))
theorem mayGo_two {H:List O} {y r k:Int} (h0:0≤k) (hk:k<1000) (h1:okP r k=true) (hy:pgF y=k∨(pgF y=k+1∧okP r (k+1)=true)):mayGo H y r 3 k=some (.ok (.bool true) H):=by
 have w1:IntKind.wrap .u64 (k+1)=k+1:=by
  show (k+1) % 18446744073709551616=_
  omega
 have w2:IntKind.wrap .u64 (k+1+1)=k+1+1:=by
  show (k+1+1) % 18446744073709551616=_
  omega
 rw [mayGo_step,decide_eq_true (by omega),cond_true,h1,cond_true,w1,mayGo_step]
 rcases hy with hy | ⟨hy,h2⟩
 ·rw [decide_eq_false (by omega),cond_false]
 ·rw [decide_eq_true (by omega),cond_true,h2,cond_true,w2,mayGo_step,decide_eq_false (by omega),cond_false]
theorem endF_big {x n:Int} (h0:0≤x) (h1:x<1000000) (h2:1≤n) (h3:n≤8192):endF x n=x+n - 1:=by
 have e:endF x n=((x+n % 18446744073709551616) % 18446744073709551616 - 1) % 18446744073709551616:=rfl
 rw [e]
 omega
theorem pgF_small {x:Int} (h0:0≤x) (h1:x<10000000):pgF x=x / 4096:=by
 refine pgF_eq ?_
 simp only [rng64,Bool.and_eq_true,decide_eq_true_eq]
 omega
theorem mayX_big {H:List O} {x n r:Int} (h:bigOk x n r=true):mayX H x n r=some (.ok (.bool true) H):=by
 unfold mayX
 unfold bigOk at h
 cases h0:n == 0
 rotate_left
 ·rfl
 rw [cond_false]
 rw [h0,Bool.false_or] at h
 rcases Bool.or_eq_true_iff.1 h with h | h
 ·simp only [Bool.and_eq_true,decide_eq_true_eq,beq_iff_eq] at h
  obtain ⟨hx,h1,h2,rfl⟩:=h
  have hx:x=4096∨x=65536:=by simpa [isBase] using hx
  have he:=endF_big (x:=x) (n:=n) (by omega) (by omega) h1 h2
  have hy:=pgF_small (x:=x+n - 1) (by omega) (by omega)
  rw [he,decide_eq_true (by omega),Bool.not_true,cond_false]
  rcases hx with rfl | rfl
  ·refine mayGo_two (k:=1) (by decide) (by decide) rfl ?_
   rw [hy]
   by_cases hn:n≤4096
   ·exact .inl (by omega)
   ·exact .inr ⟨by omega,rfl⟩
  ·refine mayGo_two (k:=16) (by decide) (by decide) rfl ?_
   rw [hy]
   by_cases hn:n≤4096
   ·exact .inl (by omega)
   ·exact .inr ⟨by omega,rfl⟩
 ·simp only [Bool.and_eq_true,decide_eq_true_eq,beq_iff_eq] at h
  obtain ⟨hx,rfl,rfl⟩:=h
  have hx:x=4096∨x=8192∨x=65536∨x=69632∨x=131072:=by simpa [isStart] using hx
  rcases hx with rfl | rfl | rfl | rfl | rfl <;> rfl
def mayBig:MSpec:=fun args H=>match args with
 | [.ptr 0 0,.int .u64 x,.int .i64 n,.int .i64 r]=>memM (fun a b c d e=>.req (bigOk x n r) (.leaf (.ok (.bool true) (memO a b c d e)))) H
 | _=>.fail
theorem mayBig_ok:MSound Tryz.prog 31 mayBig:=by
 intro args H out h
 unfold mayBig at h
 split at h
 rotate_left
 ·cases h
 rename_i x n r
 obtain ⟨a,b,c,d,e,rfl,hl,h⟩:=memM_run h
 obtain ⟨h1,h⟩:=req_run h
 cases h
 refine msound_fun (cx:=cx31) (fn:=Tryz.f31) (cx1_ok (ok1 lastS_ok) (.cons noneM_ok fun p h=>by cases h) rfl rfl) (by kernel_rfl) (by kernel_rfl) _ _ _ ?_
 refine run_req (by kernel_rfl) ?_
 rw [← Tree.fin_run,may_eq,mayX_big h1]
end Go.Ra

namespace Go.Ra
open Go Go.Ab Go.Proofs
noncomputable def cx24:Cx:={ P:=Tryz.prog,n:=34,tab:=[],mtab:=[(30,noneM),(31,mayBig),(32,putM)],refs:=[],keeps:=[0,1,2,6,7,8,18,19,20,21,22] }
theorem cxPs_ok:CxOk cx24:=cx1_ok (.nil _) (.cons noneM_ok (.cons mayBig_ok (.cons putM_ok fun p h=>by cases h))) rfl rfl
noncomputable def cxPs0:Cx:={ cx24 with fuel:=1 }
noncomputable abbrev Bps:Code:=bodyOf Tryz.f24
def layL (k x:Int) (l:List Int):Nat→List Int→List Int
 | 0,P=>P
 | n+1,P=>setF k (adr x n) (l.getD n 0) (layL k x l n P)
theorem byte_getD {l:List Int} (h:l.all byteB=true) (n:Nat):byteB (l.getD n 0)=true:=by
 rw [List.getD_eq_getElem?_getD]
 cases hn:l[n]? with
 | none=>rfl
 | some v=>exact List.all_eq_true.1 h v (List.mem_of_getElem? hn)
theorem lens5_layL {a b c d e:List Int} (x:Int) (l:List Int) (hb:l.all byteB=true) (h:lens5 a b c d e=true):∀ n,lens5 (layL 1 x l n a) (layL 2 x l n b) (layL 16 x l n c) (layL 17 x l n d) (layL 32 x l n e)=true
 | 0=>h
 | n+1=>lens5_set (lens5_layL x l hb h n) _ (byte_getD hb n)
theorem adr_small {x:Int} {j:Nat} (h0:0≤x) (h1:x+j<18446744073709551616):adr x j=x+j:=by
 have e:adr x j=(x+(j:Int) % 18446744073709551616) % 18446744073709551616:=rfl
 rw [e]
 omega
theorem usable_base {x:Int} (hx:isBase x=true) {i:Nat} (hi:i<8192):usable (adr x i)=true:=by
 have hx:x=4096∨x=65536:=by simpa [isBase] using hx
 have ea:adr x i=x+i:=adr_small (by omega) (by omega)
 have hr:rng64 (x+i)=true:=by
  simp only [rng64,Bool.and_eq_true,decide_eq_true_eq]
  omega
 have hp:pgF (x+i)=(x+i) / 4096:=pgF_eq hr
 unfold usable
 rw [ea,hr,Bool.true_and]
 have:pgF (x+i)=1∨pgF (x+i)=2∨pgF (x+i)=16∨pgF (x+i)=17:=by omega
 rcases this with h | h | h | h <;> rw [h] <;> rfl
theorem all_t {α:Type} {c:Bool} {x y:Tree α} {Q:α→Prop} (h:c=true) (hx:x.all Q):(Tree.br c x y).all Q:=⟨fun _=>hx,fun e=>Bool.noConfusion (h.symm.trans e)⟩
theorem all_f {α:Type} {c:Bool} {x y:Tree α} {Q:α→Prop} (h:c=false) (hy:y.all Q):(Tree.br c x y).all Q:=⟨fun e=>Bool.noConfusion (h.symm.trans e),fun _=>hy⟩
def cutK (ks:List Nat) (s:St):Tree St:=.leaf (s.1,keep ks s.2.1,s.2.2)
theorem cutK_run (ks:List Nat) (x:Tree St):(x.bind (cutK ks)).run=x.run.map (fun s=>(s.1,keep ks s.2.1,s.2.2)):=by
 induction x with
 | leaf b=>rfl
 | fail=>rfl
 | br c x y h1 h2 =>
  cases c
  ·exact h2
  ·exact h1
def psT (x:Int) (l sp:List Int) (fl:Fl) (i:Int):T:=[(0,.ptr 0 0),(1,.int .u64 x),(19,.sl (.int .u8) l sp fl),(20,.int .i64 l.length),(21,.int .i64 i)]
def psS (x:Int) (l:List Int) (n:Nat) (a b c d e:List Int):List O:=memO (layL 1 x l n a) (layL 2 x l n b) (layL 16 x l n c) (layL 17 x l n d) (layL 32 x l n e)
def psRound (x:Int) (l sp:List Int) (fl:Fl) (i:Nat) (a b c d e:List Int):Tree St:=
 .br (decide ((i:Int)<l.length)) (.br (inside i l.length) (.br (lens5 a b c d e) (.br (usable (adr x i)) (.leaf (.normal,psT x l sp fl (IntKind.wrap .i64 ((i:Int)+1)),
   memO (setF 1 (adr x i) (l.getD i 0) a) (setF 2 (adr x i) (l.getD i 0) b) (setF 16 (adr x i) (l.getD i 0) c) (setF 17 (adr x i) (l.getD i 0) d) (setF 32 (adr x i) (l.getD i 0) e))) .fail) .fail) .fail)
  (.leaf (.exit 0,psT x l sp fl i,memO a b c d e))
theorem psRound_eq (x:Int) (l sp:List Int) (fl:Fl) (i:Nat) (a b c d e:List Int) :
  ((dcode cx24 (cin (cin (c2 (c1 (tailN 1 Bps))))) (psT x l sp fl i) (memO a b c d e)).bind (rnd 7 [] [0,1,19,20,21])).run=(psRound x l sp fl i a b c d e).run:=
 (show _=(psRound x l sp fl i a b c d e).out by kernel_rfl).trans (Tree.out_run _)
theorem ps_head (x:Int) (l sp:List Int) (fl:Fl) (a b c d e:List Int):((dcode cx24 (headN 1 Bps) (initT 0 [.ptr 0 0,.int .u64 x,.sl (.int .u8) l sp fl]) (memO a b c d e)).bind (cutK [0,1,2])).run =
  cond (lens5 a b c d e) (cond (bigOk x l.length 0) (some (.normal,[(0,.ptr 0 0),(1,.int .u64 x),(2,.sl (.int .u8) l sp fl)],memO a b c d e)) none) none:=by kernel_rfl
theorem ps_start (x:Int) (l sp:List Int) (fl:Fl) (H:List O):(dcode cx24 (c1 (c1 (tailN 1 Bps))) [(0,.ptr 0 0),(1,.int .u64 x),(2,.sl (.int .u8) l sp fl)] H).run.map (fun s=>(s.1,keep [0,1,19,20,21] s.2.1,s.2.2)) =
  some (.normal,psT x l sp fl 0,H):=by kernel_rfl
theorem ps_end (H:List O):((dcode cx24 (tailN 2 Bps) [] H).bind (answerM Tryz.prog Tryz.f24.results.toList)).run=some (.ok (.int .i64 0) H):=by kernel_rfl
theorem ps_nil (x:Int) (a b c d e:List Int):(mfun cxPs0 Tryz.f24 [.ptr 0 0,.int .u64 x,.val (.slice none 0 0)] (memO a b c d e)).fin=cond (lens5 a b c d e) (some (.ok (.int .i64 0) (memO a b c d e))) none:=by kernel_rfl
def psSt (x:Int) (l sp:List Int) (fl:Fl) (a b c d e:List Int) (i:{ i:Nat // i≤l.length }):T × List O:=(psT x l sp fl i.1,psS x l i.1 a b c d e)
theorem ps_ok {x:Int} {l:List Int} (sp:List Int) (fl:Fl) {a b c d e:List Int} (hx:isBase x=true) (hn:l.length≤8192) (hb8:l.all byteB=true) (hl:lens5 a b c d e=true) :
  MCall Tryz.prog 24 [.ptr 0 0,.int .u64 x,.sl (.int .u8) l sp fl] (memO a b c d e) (.ok (.int .i64 0) (psS x l l.length a b c d e)):=by
 refine mcall_of' (c:=Bps) (fn:=Tryz.f24) (by kernel_rfl) (by kernel_rfl) (by kernel_rfl) (by kernel_rfl) ?_
 have hb:bigOk x l.length 0=true:=by
  unfold bigOk
  cases h0:((l.length:Int) == 0)
  ·have h0:¬ (l.length:Int)=0:=by simpa using h0
   rw [hx,decide_eq_true (by omega),decide_eq_true (by omega)]
   rfl
  ·rfl
 refine AWP_headK (cx:=cx24) rfl rfl cxPs_ok 1 [0,1,2] (by kernel_rfl) (by rw [← cutK_run,ps_head,hl,hb]; rfl) ?_
 have eb:tailN 1 Bps = .seq (.seq (c1 (c1 (tailN 1 Bps))) (.block 0 (.loop (cin (cin (c2 (c1 (tailN 1 Bps)))))))) (tailN 2 Bps):=by kernel_rfl
 rw [eb]
 obtain ⟨s,g1,g2⟩:=Option.map_eq_some_iff.1 (ps_start x l sp fl (memO a b c d e))
 refine AWP_seq (AWP_seq (AWP_run (cx:=cx24) rfl rfl cxPs_ok g1 ?_))
 obtain ⟨ex,t,H⟩:=s
 simp only [Prod.mk.injEq] at g2
 obtain ⟨rfl,g2,rfl⟩:=g2
 refine AWP_block (AWP.less (s:=psT x l sp fl 0) (g2 ▸ TLe.keep _ _) ?_)
 refine AWP_roundsK (cx:=cx24) (P:=Tryz.prog) (n:=34) rfl rfl cxPs_ok (psSt x l sp fl a b c d e) (fun i=>l.length - i.1) [] [0,1,19,20,21] ?_ ⟨0,Nat.zero_le _⟩
 rintro ⟨i,hi⟩
 have hl' := lens5_layL x l hb8 hl i
 refine Tree.all_run_eq (psRound_eq x l sp fl i _ _ _ _ _) ?_
 refine ⟨fun hlt=>?_,fun hge=>?_⟩
 ·have hlt:i<l.length:=Int.ofNat_lt.1 (of_decide_eq_true hlt)
  refine all_t (inside_of (Int.natCast_nonneg i) (Int.ofNat_lt.2 hlt)) (all_t hl' (all_t (usable_base hx (by omega)) ⟨⟨i+1,hlt⟩,by show l.length - (i+1)<l.length - i; omega,?_,rfl⟩))
  rw [wrap_i64 (by omega) (by omega)]
  exact TLe.refl _
 ·have hge:¬ i<l.length:=fun h=>of_decide_eq_false hge (Int.ofNat_lt.2 h)
  have hi' : i=l.length:=by omega
  subst hi'
  intro t _
  show AWP _ _ _ _ _ _
  refine AWP.less (s:=[]) (fun _=>.inr rfl) ?_
  obtain ⟨s,g1,g2⟩:=bind_run (ps_end (psS x l l.length a b c d e))
  refine AWP_run (cx:=cx24) rfl rfl cxPs_ok g1 ?_
  exact answerM_post g2
def setPM:MSpec:=fun args H=>match args with
 | [.ptr 0 0,.int .u64 x,.sl (.int .u8) l _ _]=>memM (fun a b c d e=>.req (isBase x && (decide (l.length≤8192) && l.all byteB)) (.leaf (.ok (.int .i64 0) (memO (layL 1 x l l.length a) (layL 2 x l l.length b) (layL 16 x l l.length c) (layL 17 x l l.length d) (layL 32 x l l.length e))))) H
 | [.ptr 0 0,.int .u64 x,.val (.slice none 0 0)]=>memM (fun a b c d e=>.leaf (.ok (.int .i64 0) (memO a b c d e))) H
 | _=>.fail
theorem cxPs0_ok:CxOk cxPs0:=cxPs_ok
theorem setPM_ok:MSound Tryz.prog 24 setPM:=by
 intro args H out h
 unfold setPM at h
 split at h
 ·rename_i x l sp fl
  obtain ⟨a,b,c,d,e,rfl,hl,h⟩:=memM_run h
  obtain ⟨h1,h⟩:=req_run h
  cases h
  obtain ⟨hx,hn⟩:=Bool.and_eq_true_iff.1 h1
  obtain ⟨hn,h8⟩:=Bool.and_eq_true_iff.1 hn
  exact ps_ok sp fl hx (of_decide_eq_true hn) h8 hl
 ·rename_i x
  obtain ⟨a,b,c,d,e,rfl,hl,h⟩:=memM_run h
  cases h
  refine msound_fun (cx:=cxPs0) (fn:=Tryz.f24) cxPs0_ok (by kernel_rfl) (by kernel_rfl) _ _ _ ?_
  refine run_req (by kernel_rfl) ?_
  rw [← Tree.fin_run,ps_nil,hl,cond_true]
 ·cases h
end Go.Ra

namespace Go.Ra
open Go Go.Ab Go.Proofs
def vI (y s:Int):Int:=wu (y*2 ^ Min.min (Int.toNat s) 64)
def u2I (h l s:Int):Int:=wu ((BitVec.toNat (BitVec.ofInt 64 (vI h s) ||| BitVec.ofInt 64 (Int.fdiv l (2 ^ Min.min (Int.toNat (wu (64 - s))) 64))):Nat):Int)
def loI (x:Int):Int:=wu ((BitVec.toNat (BitVec.ofInt 64 x &&& BitVec.ofInt 64 4294967295):Nat):Int)
def hiI (x:Int):Int:=Int.fdiv x (2 ^ 32)
def qI (a b:Int):Int:=wu (Int.tdiv a b)
def rI (a b:Int):Int:=wu (a - wu (qI a b*b))
def mI (a b q v:Int):Int:=wu (wu (wu (a*4294967296)+b) - wu (q*v))
def numH (h l y s:Int):Tree St:=
 .br (decide (0≤s)) (.br (decide (0≤s)) (.br (decide (0≤wu (64 - s))) (.br (decide (0≤s)) (.br (!decide (hiI (vI y s)=0)) (.leaf (.normal,[(0,.int .u64 h),(1,.int .u64 l),(2,.int .u64 (vI y s)),(8,.int .u64 s),(9,.int .u64 (hiI (vI y s))),(10,.int .u64 (loI (vI y s))),
  (11,.int .u64 (u2I h l s)),(12,.int .u64 (vI l s)),(13,.int .u64 (hiI (vI l s))),(14,.int .u64 (loI (vI l s))),(15,.int .u64 (qI (u2I h l s) (hiI (vI y s)))),(16,.int .u64 (rI (u2I h l s) (hiI (vI y s))))],[])) .fail) .fail) .fail) .fail) .fail
theorem numH_eq (h l y s:Int):(dcode cx151 (headN 8 (tailN 4 Bdv)) [(0,.int .u64 h),(1,.int .u64 l),(2,.int .u64 y),(8,.int .u64 s)] []).run=(numH h l y s).run:=dvNum_eq h l y s
def midH (q v v1 v0 u2 u1 u0 s:Int):Tree St:=
 .br (!decide (v1=0)) (.leaf (.normal,[(2,.int .u64 v),(8,.int .u64 s),(9,.int .u64 v1),(10,.int .u64 v0),(11,.int .u64 u2),(13,.int .u64 u1),(14,.int .u64 u0),(15,.int .u64 q),(16,.int .u64 (rI (mI u2 u1 q v) v1)),(17,.int .u64 (mI u2 u1 q v)),(18,.int .u64 (qI (mI u2 u1 q v) v1))],[])) .fail
theorem midH_eq (q v v1 v0 u2 u1 u0 s:Int):(dcode cx151 (headN 2 (tailN 14 Bdv)) [(2,.int .u64 v),(8,.int .u64 s),(9,.int .u64 v1),(10,.int .u64 v0),(11,.int .u64 u2),(13,.int .u64 u1),(14,.int .u64 u0),(15,.int .u64 q)] []).run=(midH q v v1 v0 u2 u1 u0 s).run:=dvMid_eq q v v1 v0 u2 u1 u0 s
def endH (q1 q0 v u21 u0 s:Int):Tree St:=
 .br (decide (0≤s)) (.leaf (.ret,[(2,.int .u64 v),(6,.int .u64 (wu (wu (q1*4294967296)+q0))),(7,.int .u64 (Int.fdiv (mI u21 u0 q0 v) (2 ^ Min.min (Int.toNat s) 64))),(8,.int .u64 s),(14,.int .u64 u0),(15,.int .u64 q1),(17,.int .u64 u21),(18,.int .u64 q0)],[])) .fail
theorem endH_eq (q1 q0 v u21 u0 s:Int):(dcode cx151 (tailN 18 Bdv) [(2,.int .u64 v),(8,.int .u64 s),(14,.int .u64 u0),(15,.int .u64 q1),(17,.int .u64 u21),(18,.int .u64 q0)] []).run=(endH q1 q0 v u21 u0 s).run:=dvEnd_eq q1 q0 v u21 u0 s
theorem hi_cast (x:Nat):hiI (x:Int)=((x / 4294967296:Nat):Int):=fdiv_cast x 32
theorem lo_cast' (x:Nat):loI (x:Int)=((x % 4294967296:Nat):Int):=lo_cast x
theorem q_cast {x v:Nat} (h:x<18446744073709551616):qI (x:Int) (v:Int)=((x / v:Nat):Int):=by
 unfold qI
 rw [tdiv_cast]
 exact wu_cast (by have:=Nat.div_le_self x v; omega)
theorem r_cast {x v:Nat} (h:x<18446744073709551616):rI (x:Int) (v:Int)=((x % v:Nat):Int):=by
 unfold rI
 rw [q_cast h]
 exact rest_cast h
theorem pt_v {v:Nat}:v / 4294967296*4294967296+v % 4294967296=v:=by omega
theorem pt_u {u2 u10:Nat}:u2*18446744073709551616+u10=(u2*4294967296+u10 / 4294967296)*4294967296+u10 % 4294967296:=by omega
theorem pt_lt {u2 u10 v:Nat} (h:u2*18446744073709551616+u10<v*18446744073709551616):u2*4294967296+u10 / 4294967296<v*4294967296:=by
 rw [pt_u] at h
 refine Nat.lt_of_not_le fun g=>Nat.not_le.2 h ?_
 have g:=Nat.mul_le_mul_right 4294967296 g
 rw [Nat.mul_assoc v 4294967296 4294967296] at g
 exact Nat.le_trans g (Nat.le_add_right _ _)
theorem pt_lt2 {u21 u0 v:Nat} (h:u21<v) (h0:u0<4294967296):u21*4294967296+u0<v*4294967296:=by omega
theorem pt_q {q1 q0:Nat} (h:q1*4294967296+q0<18446744073709551616):wu (wu ((q1:Int)*4294967296)+(q0:Int))=((q1*4294967296+q0:Nat):Int):=by
 rw [wu_mod,wu_mod]
 omega
set_option maxRecDepth 8000 in
set_option maxHeartbeats 1000000 in
theorem dv_part2 {v u21 u0 q1 s:Nat} (b2:9223372036854775808≤v) (b3:v<18446744073709551616) (hu0:u0<4294967296) (hm:u21<v) (hs:s≤64) (hq:q1*4294967296+(u21*4294967296+u0) / v<18446744073709551616) :
  AWP Tryz.prog 135 (tailN 2 (tailN 14 Bdv)) (fun e t H=>(e = .ret∨e = .normal)∧answerV Tryz.prog Tryz.f151.results.toList H t=some (.tup [.int .u64 ((q1*4294967296+(u21*4294967296+u0) / v:Nat):Int),.int .u64 (((u21*4294967296+u0) % v / 2 ^ s:Nat):Int)]))
   [(2,.int .u64 v),(8,.int .u64 (s:Nat)),(9,.int .u64 ((v / 4294967296:Nat):Int)),(10,.int .u64 ((v % 4294967296:Nat):Int)),(14,.int .u64 (u0:Nat)),(15,.int .u64 (q1:Nat)),(16,.int .u64 ((u21 % (v / 4294967296):Nat):Int)),(17,.int .u64 (u21:Nat)),(18,.int .u64 ((u21 / (v / 4294967296):Nat):Int))] []:=by
 have hok:CxOk cx151:=cx1_ok (ok1 lzS_ok) (.nil _) rfl rfl
 have eV:v / 4294967296*4294967296+v % 4294967296=v:=pt_v
 have hs0:decide ((0:Int)≤(s:Int))=true:=decide_eq_true (by omega)
 have ec2:tailN 2 (tailN 14 Bdv) = .seq (.block 2 (.loop (cin (cin (c1 (tailN 17 Bdv)))))) (tailN 18 Bdv):=by kernel_rfl
 rw [ec2]
 refine AWP_seq (AWP_block ?_)
 refine dv_loop (cx:=cx151) (P:=Tryz.prog) (n:=135) rfl rfl hok (st:=fun q r=>[(2,.int .u64 v),(8,.int .u64 (s:Nat)),(9,.int .u64 ((v / 4294967296:Nat):Int)),(10,.int .u64 ((v % 4294967296:Nat):Int)),(14,.int .u64 (u0:Nat)),(15,.int .u64 (q1:Nat)),(16,.int .u64 r),(17,.int .u64 (u21:Nat)),(18,.int .u64 q)])
  (ex:=2) (a:=113) (b:=120) (v1:=v / 4294967296) (v0:=v % 4294967296) (u2:=u21) (u1:=u0) (by omega) (by omega) (by omega) hu0 (by rw [eV]; exact pt_lt2 hm hu0)
  (fun q r x=>Fits.tle ⟨rfl,rfl,rfl,rfl,rfl,rfl,rfl,rfl,rfl,trivial⟩) (fun q r=>dv_rd2 _ _ _ _ _ _ _ q r) ?_
 intro r x
 rw [eV]
 show AWP _ _ _ _ _ _
 refine AWP.less (s:=[(2,.int .u64 v),(8,.int .u64 (s:Nat)),(14,.int .u64 (u0:Nat)),(15,.int .u64 (q1:Nat)),(17,.int .u64 (u21:Nat)),(18,.int .u64 (((u21*4294967296+u0) / v:Nat):Int))])
  (Fits.tle ⟨rfl,rfl,rfl,rfl,rfl,rfl,trivial⟩) ?_
 have ee:(dcode cx151 (tailN 18 Bdv) [(2,.int .u64 v),(8,.int .u64 (s:Nat)),(14,.int .u64 (u0:Nat)),(15,.int .u64 (q1:Nat)),(17,.int .u64 (u21:Nat)),(18,.int .u64 (((u21*4294967296+u0) / v:Nat):Int))] []).run=_:=(endH_eq _ _ _ _ _ _).trans (show _=some _ by unfold endH; rw [hs0]; rfl)
 refine AWP_run (cx:=cx151) rfl rfl hok ee ?_
 refine ⟨.inl rfl,?_⟩
 have em2:mI (u21:Nat) (u0:Nat) (((u21*4294967296+u0) / v:Nat):Int) (v:Nat)=(((u21*4294967296+u0) % v:Nat):Int):=rest2_cast (by omega) (by omega)
 refine Eq.trans (b:=some (V.tup [.int .u64 (wu (wu ((q1:Nat)*4294967296)+(((u21*4294967296+u0) / v:Nat):Int))),.int .u64 (Int.fdiv (mI (u21:Nat) (u0:Nat) (((u21*4294967296+u0) / v:Nat):Int) (v:Nat)) (2 ^ Min.min (Int.toNat (s:Nat)) 64))])) (by kernel_rfl) ?_
 rw [em2,min_cast (by omega),fdiv_cast]
 rw [pt_q hq]
set_option maxRecDepth 8000 in
set_option maxHeartbeats 1000000 in
theorem div_call {h l y:Nat} (hh:h<y) (hy:y<2 ^ 64) (hl:l<18446744073709551616):PCall Tryz.prog 151 [.int .u64 h,.int .u64 l,.int .u64 y] (.tup [.int .u64 (dq128 h l y),.int .u64 (dr128 h l y)]):=by
 have hok:CxOk cx151:=cx1_ok (ok1 lzS_ok) (.nil _) rfl rfl
 refine pcall_of' (c:=Bdv) (fn:=Tryz.f151) (by kernel_rfl) (by kernel_rfl) (by kernel_rfl) (by kernel_rfl) ?_
 rw [dq_cast,dr_cast]
 refine AWP_headE (cx:=cx151) rfl rfl hok 4 (by kernel_rfl) (dvHead_eq h l y) ?_
 refine all_f (by rw [beq_eq_false_iff_ne]; omega) (all_f (decide_eq_false (by omega)) ⟨fun h0=>?_,fun h0=>?_⟩)
 ·have h0:(h:Int)=0:=eq_of_beq h0
  have h0:h=0:=by omega
  subst h0
  have hn:(!decide ((y:Int)=0))=true:=by rw [decide_eq_false (by omega)]; rfl
  refine all_t hn (all_t hn ⟨.inl rfl,?_⟩)
  refine Eq.trans (b:=some (V.tup [.int .u64 (wu (Int.tdiv (l:Int) (y:Int))),.int .u64 (Int.tmod (l:Int) (y:Int))])) (by kernel_rfl) ?_
  have e1:wu (Int.tdiv (l:Int) (y:Int))=(((0*18446744073709551616+l) / y:Nat):Int):=by
   rw [tdiv_cast,Nat.zero_mul,Nat.zero_add]
   exact wu_cast (by have:=Nat.div_le_self l y; omega)
  have e2:Int.tmod (l:Int) (y:Int)=(((0*18446744073709551616+l) % y:Nat):Int):=by
   rw [Int.tmod_eq_emod_of_nonneg (by omega),Nat.zero_mul,Nat.zero_add]
   rfl
  rw [e1,e2]
 refine all_t (by simp only [rng64,Bool.and_eq_true,decide_eq_true_eq]; omega) ?_
 show AWP _ _ _ _ _ _
 have hy0:y ≠ 0:=by omega
 obtain ⟨b1,b2,b3⟩:=dvS_bd hy hy0
 have es:=sF_eq hy
 refine AWP.less (s:=[(0,.int .u64 h),(1,.int .u64 l),(2,.int .u64 y),(8,.int .u64 (dvS y:Nat))]) (Fits.tle ⟨rfl,rfl,rfl,congrArg (V.int .u64) es,trivial⟩) ?_
 refine AWP_headE (cx:=cx151) rfl rfl hok 8 (by kernel_rfl) (numH_eq h l y (dvS y:Nat)) ?_
 have ev:vI (y:Int) (dvS y:Nat)=((y*2 ^ dvS y:Nat):Int):=by
  refine (shl_cast (x:=y) (s:=dvS y) (by omega)).trans ?_
  rw [Nat.mod_eq_of_lt b3]
 have el:vI (l:Int) (dvS y:Nat)=((dvU10 l (dvS y):Nat):Int):=shl_cast (x:=l) (s:=dvS y) (by omega)
 obtain ⟨eu,hu2⟩:=u2_cast hy hy0 hh hl
 have eu:u2I (h:Int) (l:Int) (dvS y:Nat)=((dvU2 h l (dvS y):Nat):Int):=eu
 have hu:=dvU_eq (h:=h) (l:=l) (s:=dvS y) (by omega)
 have h10:dvU10 l (dvS y)<18446744073709551616:=Nat.mod_lt _ (by decide)
 have e64:wu (64 - ((dvS y:Nat):Int))=((64 - dvS y:Nat):Int):=by
  rw [show (64:Int) - ((dvS y:Nat):Int)=((64 - dvS y:Nat):Int) by omega]
  exact wu_cast (by omega)
 have htot:(h*18446744073709551616+l)*2 ^ dvS y<y*2 ^ dvS y*18446744073709551616:=by
  have h1:h*18446744073709551616+l<y*18446744073709551616:=by
   have:(h+1)*18446744073709551616≤y*18446744073709551616:=Nat.mul_le_mul_right _ hh
   omega
  have:=Nat.mul_lt_mul_of_pos_right h1 (Nat.two_pow_pos (dvS y))
  rw [Nat.mul_right_comm y] at this
  exact this
 have hend:=kn_shift (x:=h*18446744073709551616+l) (y:=y) (dvS y) (by omega)
 rw [← hu] at htot hend
 unfold numH
 rw [ev,el,eu,hi_cast,hi_cast,lo_cast',lo_cast',q_cast hu2,r_cast hu2]
 have hs0:decide ((0:Int)≤((dvS y:Nat):Int))=true:=decide_eq_true (by omega)
 refine all_t hs0 (all_t hs0 (all_t (by rw [e64]; exact decide_eq_true (by omega)) (all_t hs0 (all_t (by rw [decide_eq_false (by omega)]; rfl) ?_))))
 show AWP _ _ _ _ _ _
 have hq:=dq_lt hh hl
 rw [← hend.1] at hq ⊢
 rw [← hend.2]
 clear hend hu es ev el eu e64
 generalize hs:dvS y=s at *
 generalize dvU2 h l s=u2 at *
 generalize dvU10 l s=u10 at *
 generalize y*2 ^ s=v at *
 have ec:tailN 8 (tailN 4 Bdv) = .seq (.block 0 (.loop (cin (cin (c1 (tailN 13 Bdv)))))) (tailN 14 Bdv):=by kernel_rfl
 rw [ec]
 have eV:v / 4294967296*4294967296+v % 4294967296=v:=pt_v
 have eU:u2*18446744073709551616+u10=(u2*4294967296+u10 / 4294967296)*4294967296+u10 % 4294967296:=pt_u
 have hu1:u2*4294967296+u10 / 4294967296<v*4294967296:=pt_lt htot
 rw [eU] at hq ⊢
 obtain ⟨j1,j2⟩:=kn_join (v:=v) (x:=u2*4294967296+u10 / 4294967296) (u0:=u10 % 4294967296) (by omega)
 rw [← j1] at hq ⊢
 rw [← j2]
 refine AWP_seq (AWP_block ?_)
 refine AWP.less (s:=[(2,.int .u64 v),(8,.int .u64 (s:Nat)),(9,.int .u64 ((v / 4294967296:Nat):Int)),(10,.int .u64 ((v % 4294967296:Nat):Int)),(11,.int .u64 (u2:Nat)),(13,.int .u64 ((u10 / 4294967296:Nat):Int)),(14,.int .u64 ((u10 % 4294967296:Nat):Int)),(15,.int .u64 ((u2 / (v / 4294967296):Nat):Int)),(16,.int .u64 ((u2 % (v / 4294967296):Nat):Int))])
  (Fits.tle ⟨rfl,rfl,rfl,rfl,rfl,rfl,rfl,rfl,rfl,trivial⟩) ?_
 refine dv_loop (cx:=cx151) (P:=Tryz.prog) (n:=135) rfl rfl hok (st:=fun q r=>[(2,.int .u64 v),(8,.int .u64 (s:Nat)),(9,.int .u64 ((v / 4294967296:Nat):Int)),(10,.int .u64 ((v % 4294967296:Nat):Int)),(11,.int .u64 (u2:Nat)),(13,.int .u64 ((u10 / 4294967296:Nat):Int)),(14,.int .u64 ((u10 % 4294967296:Nat):Int)),(15,.int .u64 q),(16,.int .u64 r)])
  (ex:=0) (a:=78) (b:=85) (v1:=v / 4294967296) (v0:=v % 4294967296) (u2:=u2) (u1:=u10 / 4294967296) (by omega) (by omega) (by omega) (by omega) (by rw [eV]; exact hu1)
  (fun q r x=>Fits.tle ⟨rfl,rfl,rfl,rfl,rfl,rfl,rfl,rfl,rfl,trivial⟩) (fun q r=>dv_rd1 _ _ _ _ _ _ _ q r) ?_
 intro r x
 rw [eV]
 show AWP _ _ _ _ _ _
 refine AWP.less (s:=[(2,.int .u64 v),(8,.int .u64 (s:Nat)),(9,.int .u64 ((v / 4294967296:Nat):Int)),(10,.int .u64 ((v % 4294967296:Nat):Int)),(11,.int .u64 (u2:Nat)),(13,.int .u64 ((u10 / 4294967296:Nat):Int)),(14,.int .u64 ((u10 % 4294967296:Nat):Int)),(15,.int .u64 (((u2*4294967296+u10 / 4294967296) / v:Nat):Int))])
  (Fits.tle ⟨rfl,rfl,rfl,rfl,rfl,rfl,rfl,rfl,trivial⟩) ?_
 refine AWP_headE (cx:=cx151) rfl rfl hok 2 (by kernel_rfl) (midH_eq _ _ _ _ _ _ _ _) ?_
 have em:mI (u2:Nat) ((u10 / 4294967296:Nat):Int) (((u2*4294967296+u10 / 4294967296) / v:Nat):Int) (v:Nat)=(((u2*4294967296+u10 / 4294967296) % v:Nat):Int):=rest2_cast (by omega) (by omega)
 unfold midH
 have hm:=Nat.mod_lt (u2*4294967296+u10 / 4294967296) (show 0<v by omega)
 rw [em,q_cast (by omega),r_cast (by omega)]
 refine all_t (by rw [decide_eq_false (by omega)]; rfl) ?_
 show AWP _ _ _ _ _ _
 refine AWP.less (s:=[(2,.int .u64 v),(8,.int .u64 (s:Nat)),(9,.int .u64 ((v / 4294967296:Nat):Int)),(10,.int .u64 ((v % 4294967296:Nat):Int)),(14,.int .u64 ((u10 % 4294967296:Nat):Int)),(15,.int .u64 (((u2*4294967296+u10 / 4294967296) / v:Nat):Int)),(16,.int .u64 (((u2*4294967296+u10 / 4294967296) % v % (v / 4294967296):Nat):Int)),(17,.int .u64 (((u2*4294967296+u10 / 4294967296) % v:Nat):Int)),(18,.int .u64 (((u2*4294967296+u10 / 4294967296) % v / (v / 4294967296):Nat):Int))])
  (Fits.tle ⟨rfl,rfl,rfl,rfl,rfl,rfl,rfl,rfl,rfl,trivial⟩) ?_
 exact dv_part2 b2 b3 (by omega) hm (by omega) hq
def div64S:Ab.Spec:=fun args=>match args with
 | [.int .u64 h,.int .u64 l,.int .u64 y]=>.req (rng64 h && (rng64 l && (rng64 y && decide (h<y)))) (.leaf (.tup [.int .u64 (dq128 h l y),.int .u64 (dr128 h l y)]))
 | _=>.fail
theorem div64S_ok:Sound Tryz.prog 151 div64S:=by
 intro args out g
 unfold div64S at g
 split at g
 rotate_left
 ·cases g
 rename_i h l y
 obtain ⟨h1,g⟩:=req_run g
 cases g
 simp only [rng64,Bool.and_eq_true,decide_eq_true_eq] at h1
 obtain ⟨⟨a1,a2⟩,⟨b1,b2⟩,⟨c1,c2⟩,d⟩:=h1
 obtain ⟨h,rfl⟩:=Int.eq_ofNat_of_zero_le a1
 obtain ⟨l,rfl⟩:=Int.eq_ofNat_of_zero_le b1
 obtain ⟨y,rfl⟩:=Int.eq_ofNat_of_zero_le c1
 exact div_call (by omega) (by omega) (by omega)
end Go.Ra

namespace Go.Ra
open Go Go.Ab Go.Proofs
def shlF (x c:Int):Int:=IntKind.wrap .u64 (x*2 ^ (min c.toNat 64))
def shrF (x c:Int):Int:=Int.fdiv x (2 ^ (min c.toNat 64))
def andU (a b:Int):Int:=IntKind.wrap .u64 (((BitVec.ofInt 64 a &&& BitVec.ofInt 64 b).toNat:Nat):Int)
noncomputable def cx150:Cx:={ P:=Tryz.prog,n:=51,tab:=[],mtab:=[],refs:=[],keeps:=[0,1,4,5,6,7,8,9,10,11,12,13] }
def s32 (x:Int):Int:=Int.fdiv x (2 ^ 32)
def lo32 (x:Int):Int:=andU x 4294967295
def mulA (a b:Int):Int:=wu (wu (s32 a*lo32 b)+s32 (wu (lo32 a*lo32 b)))
def mulB (a b:Int):Int:=wu (lo32 (mulA a b)+wu (lo32 a*s32 b))
def mulC (a b:Int):Int:=wu (wu (wu (s32 a*s32 b)+s32 (mulA a b))+s32 (mulB a b))
theorem mul_eq (a b:Int):(dfun cx150 Tryz.f150 [.int .u64 a,.int .u64 b]).fin=some (.tup [.int .u64 (mulC a b),.int .u64 (wu (a*b))]):=by kernel_rfl
theorem lo32_cast (x:Nat):lo32 (x:Int)=((x % 4294967296:Nat):Int):=by
 unfold lo32 andU
 have e1:(BitVec.ofInt 64 (x:Int)).toNat=x % 18446744073709551616:=by
  rw [BitVec.toNat_ofInt]
  omega
 rw [BitVec.toNat_and,e1,show (BitVec.ofInt 64 4294967295).toNat=2 ^ 32 - 1 from by decide,Nat.and_two_pow_sub_one_eq_mod]
 show ((x % 18446744073709551616 % 2 ^ 32:Nat):Int) % 18446744073709551616=_
 omega
theorem s32_cast (x:Nat):s32 (x:Int)=((x / 4294967296:Nat):Int):=by
 unfold s32
 rw [Int.fdiv_eq_ediv_of_nonneg _ (by decide)]
 rfl
theorem mulC_eq {a b:Int} (ha:rng64 a=true) (hb:rng64 b=true):mulC a b=a*b / 18446744073709551616:=by
 simp only [rng64,Bool.and_eq_true,decide_eq_true_eq] at ha hb
 obtain ⟨x,rfl⟩:=Int.eq_ofNat_of_zero_le ha.1
 obtain ⟨y,rfl⟩:=Int.eq_ofNat_of_zero_le hb.1
 obtain ⟨b1,b2,b3,e⟩:=Lib.mul64_hi x y (by omega) (by omega)
 have c1:=Lib.half_mul_le (a:=x / 4294967296) (b:=y / 4294967296) (by omega) (by omega)
 have c2:=Lib.half_mul_le (a:=x / 4294967296) (b:=y % 4294967296) (by omega) (by omega)
 have c3:=Lib.half_mul_le (a:=x % 4294967296) (b:=y / 4294967296) (by omega) (by omega)
 have e1:mulA x y=((x / 4294967296*(y % 4294967296)+x % 4294967296*(y % 4294967296) / 4294967296:Nat):Int):=by
  unfold mulA
  rw [lo32_cast,lo32_cast,s32_cast,← Int.natCast_mul,← Int.natCast_mul,wu_cast (by omega),wu_cast b1,s32_cast,← Int.natCast_add,wu_cast b2]
 have e2:mulB x y=(((x / 4294967296*(y % 4294967296)+x % 4294967296*(y % 4294967296) / 4294967296) % 4294967296+x % 4294967296*(y / 4294967296):Nat):Int):=by
  unfold mulB
  rw [e1,lo32_cast,lo32_cast,s32_cast,← Int.natCast_mul,wu_cast (by omega),← Int.natCast_add,wu_cast b3]
 unfold mulC
 rw [e1,e2,s32_cast,s32_cast,s32_cast,s32_cast,← Int.natCast_mul,wu_cast (by omega),← Int.natCast_add,wu_cast (by omega),← Int.natCast_add,wu_cast,e,Int.natCast_ediv,Int.natCast_mul]
 ·rfl
 ·rw [e]
  have:x*y / 18446744073709551616<18446744073709551616:=by
   rw [Nat.div_lt_iff_lt_mul (by decide)]
   exact Nat.mul_lt_mul'' (by omega) (by omega)
  omega
def mulHi (a b:Int):Int:=a*b / 18446744073709551616
def mulS:Ab.Spec:=fun args=>match args with
 | [.int .u64 a,.int .u64 b]=>.req (rng64 a && rng64 b) (.leaf (.tup [.int .u64 (mulHi a b),.int .u64 (wu (a*b))]))
 | _=>.fail
theorem mulS_ok:Sound Tryz.prog 150 mulS:=by
 intro args out h
 unfold mulS at h
 split at h
 rotate_left
 ·cases h
 rename_i a b
 obtain ⟨h1,h⟩:=req_run h
 cases h
 obtain ⟨g1,g2⟩:=Bool.and_eq_true_iff.1 h1
 refine pcall_fun' (cx:=cx150) (fn:=Tryz.f150) (cx0_ok rfl rfl) (by kernel_rfl) (by kernel_rfl) (by kernel_rfl) ?_
 rw [← Tree.fin_run,mul_eq,mulC_eq g1 g2]
 rfl
end Go.Ra
