/-
  The document's memory: a byte got and put; whether bytes may be used. Conditions: none.
-/
import Derived.Test.YtnickegmpffneaaGreatDoorPk33
set_option linter.unusedVariables false
set_option linter.unusedSimpArgs false
namespace Go.Ra
open Go Go.Ab Go.Proofs
noncomputable def cxRget:Cx:={ P:=Tryz.prog,n:=Tryz.f163.ntmps,tab:=[],mtab:=[],refs:=[],keeps:=[0,1,4],rtab:=[(69,findRT)],lz:=[18] }
noncomputable def cxRput:Cx:={ P:=Tryz.prog,n:=Tryz.f72.ntmps,tab:=[],mtab:=[],refs:=[],keeps:=[0,1,2],rtab:=[(69,findRT)],lz:=[20] }
theorem cxRget_ok:CxOk cxRget:=⟨.nil _,.nil _,.cons findRT_ok (.nil _),fun p h=>by cases h⟩
theorem cxRput_ok:CxOk cxRput:=⟨.nil _,.nil _,.cons findRT_ok (.nil _),fun p h=>by cases h⟩
def offR (x:Int):Nat:=0+Int.toNat (Int.tmod x 4096)*1
def inR {α:Type} (x:Int) (l:List Int) (v:Option α):Option α:=cond (inside (Int.tmod x 4096) 4096) (cond (Nat.blt (offR x) l.length) v none) none
def pgS {α:Type} (k:Int) (a b c d e:List Int) (f:List Int→(List Int→List O)→Option α):Option α:=
 cond (k == 1) (f a (fun l=>refO l b c d e)) (cond (k == 2) (f b (fun l=>refO a l c d e)) (cond (k == 16) (f c (fun l=>refO a b l d e)) (cond (k == 17) (f d (fun l=>refO a b c l e)) (cond (k == 32) (f e (fun l=>refO a b c d l)) none))))
theorem getr_eq (a b c d e:List Int) (x:Int):(qfun cxRget Tryz.f163 [.ptr 0 0,.int .u64 x] (refO a b c d e)).fin =
  cond (lens5 a b c d e) (pgS (pgF x) a b c d e (fun l _=>inR x l (some (.int .u8 (l.getD (offR x) 0))))) none:=by kernel_rfl
theorem putr_eq (a b c d e:List Int) (x v:Int):(mfun cxRput Tryz.f72 [.ptr 0 0,.int .u64 x,.int .u8 v] (refO a b c d e)).fin =
  cond (lens5 a b c d e) (pgS (pgF x) a b c d e (fun l H=>inR x l (some (.ok (.tup []) (H (l.set (offR x) v)))))) none:=by kernel_rfl
theorem offR_eq (x:Int):offR x=offF x:=by
 unfold offR offF
 omega
theorem inR_eq {α:Type} {x:Int} {l:List Int} {v:Option α} (h:rng64 x=true) (hl:l.length=4096):inR x l v=v:=by
 obtain ⟨h1,h2⟩:=off_lt h
 unfold inR
 rw [h1,cond_true,offR_eq]
 have:Nat.blt (offF x) l.length=true:=by
  rw [hl]
  exact Nat.ble_eq_true_of_le h2
 rw [this]
 rfl
def getRf:RSpec:=fun args H=>match args with
 | [.ptr 0 0,.int .u64 x]=>refM (fun a b c d e=>.req (rng64 x && isPg (pgF x)) (.leaf (.int .u8 (byteF a b c d e x)))) H
 | _=>.fail
theorem getRf_ok:RSound Tryz.prog 163 getRf:=by
 intro args H out h
 unfold getRf at h
 split at h
 rotate_left
 ·cases h
 rename_i x
 obtain ⟨a,b,c,d,e,rfl,hl,h⟩:=refM_run h
 obtain ⟨h1,h⟩:=req_run h
 cases h
 obtain ⟨hx,hk⟩:=Bool.and_eq_true_iff.1 h1
 obtain ⟨l1,l2,l3,l4,l5⟩:=lens5_spec hl
 refine qfun_ok (cx:=cxRget) (fn:=Tryz.f163) cxRget_ok (by kernel_rfl) (by kernel_rfl) (by kernel_rfl) (by kernel_rfl) _ _ _ ?_
 rw [← Tree.fin_run,getr_eq,hl,cond_true]
 unfold pgS byteF selF
 simp only [inR_eq hx,l1,l2,l3,l4,l5,offR_eq]
 simp only [isPg,Bool.or_eq_true,beq_iff_eq] at hk
 rcases hk with hk | hk | hk | hk | hk <;> rw [hk] <;> rfl
def putRf:MSpec:=fun args H=>match args with
 | [.ptr 0 0,.int .u64 x,.int .u8 v]=>refM (fun a b c d e=>.req (rng64 x && isPg (pgF x)) (.leaf (.ok (.tup []) (refO (setF 1 x v a) (setF 2 x v b) (setF 16 x v c) (setF 17 x v d) (setF 32 x v e))))) H
 | _=>.fail
theorem putRf_ok:MSound Tryz.prog 72 putRf:=by
 intro args H out h
 unfold putRf at h
 split at h
 rotate_left
 ·cases h
 rename_i x v
 obtain ⟨a,b,c,d,e,rfl,hl,h⟩:=refM_run h
 obtain ⟨h1,h⟩:=req_run h
 cases h
 obtain ⟨hx,hk⟩:=Bool.and_eq_true_iff.1 h1
 obtain ⟨l1,l2,l3,l4,l5⟩:=lens5_spec hl
 refine msound_fun (cx:=cxRput) (fn:=Tryz.f72) cxRput_ok (by kernel_rfl) (by kernel_rfl) _ _ _ ?_
 refine run_req (by kernel_rfl) ?_
 rw [← Tree.fin_run,putr_eq,hl,cond_true]
 unfold pgS setF
 simp only [inR_eq hx,l1,l2,l3,l4,l5,offR_eq]
 simp only [isPg,Bool.or_eq_true,beq_iff_eq] at hk
 rcases hk with hk | hk | hk | hk | hk <;> rw [hk] <;> rfl
noncomputable def cxRcan:Cx:={ P:=Tryz.prog,n:=Tryz.f71.ntmps,tab:=[],mtab:=[],refs:=[],keeps:=[0,1,2,3,8,9,10,20,23,35,61],rtab:=[(69,findR)],lz:=[55],fuel:=9 }
theorem cxRcan_ok:CxOk cxRcan:=⟨.nil _,.nil _,.cons findR_ok (.nil _),fun p h=>by cases h⟩
noncomputable def canE (y:Nat × Int) (a b c d e:List Int) (x:Int):Option V:=(qfun cxRcan Tryz.f71 [.ptr 0 0,.int .u64 x,.int .i64 (y.1:Int),.int .i64 y.2] (refO a b c d e)).fin
def andI (a b:Int):Int:=IntKind.wrap .i64 (((BitVec.ofInt 64 a &&& BitVec.ofInt 64 b).toNat:Nat):Int)
def rightAt (p:Int):Int:=intAt rRows (0+(idxF p).toNat*3+1)
def canC (L:Bool) (r p:Int) (k:Option V):Option V:=
 cond L (cond (decide (idxF p<0)) (some (.bool false)) (cond (decide (0<r)) (cond (inside (idxF p) 5) (cond (isIntAt .i64 rRows (0+(idxF p).toNat*3+1)) (cond (andI (rightAt p) r == 0) (some (.bool false)) k) none) none) k)) none
def canGo (L:Bool) (x r:Int):Nat→Nat→Option V
 | 0,_=>some (.bool true)
 | m+1,i=>cond (Nat.blt 0 i) (cond (Int.tmod (adr x i) 4096 != 0) (canGo L x r m (i+1)) (canC L r (pgF (adr x i)) (canGo L x r m (i+1)))) (canC L r (pgF (adr x i)) (canGo L x r m (i+1)))
def canX (y:Nat × Int) (a b c d e:List Int) (x:Int):Option V:=cond (decide (IntKind.wrap .u64 (18446744073709551615 - x)<((y.1:Int) - 1))) (some (.bool false)) (canGo (lens5 a b c d e) x y.2 y.1 0)
def canL:List (Nat × Int):=[(1,0),(2,0),(4,0),(8,0),(1,2),(2,2),(4,2),(8,2),(1,4),(2,4),(4,4),(8,4),(1,1),(2,1),(3,1),(4,1)]
theorem can_a:(canL.take 4).map canE=(canL.take 4).map canX:=by kernel_rfl
theorem can_b:((canL.drop 4).take 4).map canE=((canL.drop 4).take 4).map canX:=by kernel_rfl
theorem can_c:((canL.drop 8).take 4).map canE=((canL.drop 8).take 4).map canX:=by kernel_rfl
theorem can_d:(canL.drop 12).map canE=(canL.drop 12).map canX:=by kernel_rfl
theorem can_all:∀ y ∈ canL,canE y=canX y:=by
 have e:canL=canL.take 4++((canL.drop 4).take 4++((canL.drop 8).take 4++canL.drop 12)):=rfl
 have h:canL.map canE=canL.map canX:=by
  rw [e]
  simp only [List.map_append,can_a,can_b,can_c,can_d]
 exact List.map_inj_left.1 h
theorem canC_eq {r:Int} (hr:r=0∨r=1∨r=2∨r=4) (p:Int) (k:Option V):canC true r p k=cond (okP r p) k (some (.bool false)):=by
 by_cases h1:p=1
 ·subst h1
  rcases hr with rfl | rfl | rfl | rfl <;> rfl
 by_cases h2:p=2
 ·subst h2
  rcases hr with rfl | rfl | rfl | rfl <;> rfl
 by_cases h3:p=16
 ·subst h3
  rcases hr with rfl | rfl | rfl | rfl <;> rfl
 by_cases h4:p=17
 ·subst h4
  rcases hr with rfl | rfl | rfl | rfl <;> rfl
 by_cases h5:p=32
 ·subst h5
  rcases hr with rfl | rfl | rfl | rfl <;> rfl
 have e:∀ k:Int,p ≠ k→(p == k)=false:=fun k h=>by simpa using h
 have hi:idxF p = -1:=by
  unfold idxF
  rw [e 1 h1,e 2 h2,e 16 h3,e 17 h4,e 32 h5]
  rfl
 have ho:okP r p=false:=by
  unfold okP pgR
  rw [e 1 h1,e 2 h2,e 16 h3,e 17 h4,e 32 h5]
  rfl
 unfold canC
 rw [hi,ho]
 rfl
theorem pgF_at {x:Int} (h0:0≤x) (h1:x<18446744073709551616):pgF x=x / 4096:=pgF_eq (by
 simp only [rng64,Bool.and_eq_true,decide_eq_true_eq]
 exact ⟨h0,h1⟩)
theorem adr_at' {x:Int} {j:Nat} (h0:0≤x) (h1:x+j<18446744073709551616):adr x j=x+j:=by
 have e:adr x j=(x+(j:Int) % 18446744073709551616) % 18446744073709551616:=rfl
 rw [e]
 omega
theorem canGo_eq {x r:Int} {n:Nat} (hr:r=0∨r=1∨r=2∨r=4) (h0:0≤x) (hn:n≤16) (h1:x+n - 1<18446744073709551616):∀ (m i:Nat),1≤i→i+m=n →
  canGo true x r m i=some (.bool (pgF (x+n - 1) == pgF (x+i - 1) || okP r (pgF (x+n - 1))))
 | 0,i,hi,hm=>by
  have:(i:Int)=n:=by omega
  rw [this,beq_self_eq_true]
  rfl
 | m+1,i,hi,hm=>by
  have ih:=canGo_eq hr h0 hn h1 m (i+1) (by omega) (by omega)
  have ea:=adr_at' (x:=x) (j:=i) h0 (by omega)
  have p1:pgF (x+n - 1)=(x+n - 1) / 4096:=pgF_at (by omega) h1
  have p2:pgF (x+i)=(x+i) / 4096:=pgF_at (by omega) (by omega)
  have p3:pgF (x+i - 1)=(x+i - 1) / 4096:=pgF_at (by omega) (by omega)
  have ei:(x:Int)+((i+1:Nat):Int) - 1=x+i:=by omega
  rw [ei] at ih
  have hb:Nat.blt 0 i=true:=Nat.ble_eq_true_of_le hi
  unfold canGo
  rw [hb,cond_true,ea,canC_eq hr,ih]
  have et:Int.tmod (x+i) 4096=(x+i) % 4096:=Int.tmod_eq_emod_of_nonneg (by omega)
  rw [et]
  by_cases hz:(x+i) % 4096=0
  ·have e0:((x+i) % 4096 != 0)=false:=by simpa using hz
   have e1:pgF (x+n - 1)=pgF (x+i):=by
    rw [p1,p2]
    omega
   have e2:(pgF (x+n - 1) == pgF (x+i - 1))=false:=by
    rw [beq_eq_false_iff_ne,p1,p3]
    omega
   rw [e0,cond_false,e2,e1,beq_self_eq_true,Bool.false_or,Bool.true_or]
   cases okP r (pgF (x+i)) <;> rfl
  ·have e0:((x+i) % 4096 != 0)=true:=by simpa using hz
   have e1:pgF (x+i)=pgF (x+i - 1):=by
    rw [p2,p3]
    omega
   rw [e0,cond_true,e1]
theorem canX_eq {a b c d e:List Int} {x r:Int} {n:Nat} (hl:lens5 a b c d e=true) (hx:rng64 x=true) (hr:r=0∨r=1∨r=2∨r=4) (n1:1≤n) (n2:n≤16) :
  canX (n,r) a b c d e x=some (.bool (mayB x (n:Int) r)):=by
 unfold canX mayB
 rw [hl]
 have hx' := hx
 simp only [rng64,Bool.and_eq_true,decide_eq_true_eq] at hx
 have ew:IntKind.wrap .u64 (18446744073709551615 - x)=18446744073709551615 - x:=by
  show (18446744073709551615 - x) % 18446744073709551616=_
  omega
 have ee:endF x (n:Int)=((x+(n:Int) % 18446744073709551616) % 18446744073709551616 - 1) % 18446744073709551616:=rfl
 by_cases hov:18446744073709551615 - x<(n:Int) - 1
 ·rw [ew,decide_eq_true hov,cond_true,decide_eq_false (by rw [ee]; omega)]
  rfl
 ·have hle:x≤endF x (n:Int):=by
   rw [ee]
   omega
  have ey:=endF_eq hx' (by omega) (by omega) hle
  rw [ew,decide_eq_false hov,cond_false,decide_eq_true hle,Bool.true_and,ey]
  obtain ⟨m,rfl⟩:∃ m,n=m+1:=⟨n - 1,by omega⟩
  have g:=canGo_eq (x:=x) (n:=m+1) hr hx.1 n2 (by omega) m 1 (by omega) (by omega)
  have ea:=adr_at' (x:=x) (j:=0) hx.1 (by omega)
  have e1:x+((0:Nat):Int)=x:=by omega
  have e2:x+((1:Nat):Int) - 1=x:=by omega
  rw [e2] at g
  unfold canGo
  have hb:Nat.blt 0 0=false:=rfl
  rw [hb,cond_false,ea,e1,canC_eq hr,g]
  cases okP r (pgF x) <;> rfl
def canN (n r:Int):Bool:=canL.any fun y=>((y.1:Int) == n) && (y.2 == r)
def canR:RSpec:=fun args H=>match args with
 | [.ptr 0 0,.int .u64 x,.int .i64 n,.int .i64 r]=>refM (fun _ _ _ _ _=>.req (rng64 x && canN n r) (.leaf (.bool (mayB x n r)))) H
 | _=>.fail
theorem canR_ok:RSound Tryz.prog 71 canR:=by
 intro args H out h
 unfold canR at h
 split at h
 rotate_left
 ·cases h
 rename_i x n r
 obtain ⟨a,b,c,d,e,rfl,hl,h⟩:=refM_run h
 obtain ⟨h1,h⟩:=req_run h
 cases h
 obtain ⟨hx,hn⟩:=Bool.and_eq_true_iff.1 h1
 obtain ⟨y,hy,hq⟩:=List.any_eq_true.1 hn
 simp only [Bool.and_eq_true,beq_iff_eq] at hq
 obtain ⟨q1,q2⟩:=hq
 obtain ⟨m,r'⟩:=y
 simp only at q1 q2
 subst q1 q2
 have hb:(r' = 0∨r' = 1∨r' = 2∨r' = 4)∧1≤m∧m≤16:=by
  simp only [canL,List.mem_cons,Prod.mk.injEq,List.not_mem_nil,or_false] at hy
  omega
 refine qfun_ok (cx:=cxRcan) (fn:=Tryz.f71) cxRcan_ok (by kernel_rfl) (by kernel_rfl) (by kernel_rfl) (by kernel_rfl) _ _ _ ?_
 rw [← Tree.fin_run]
 refine (congrFun (congrFun (congrFun (congrFun (congrFun (congrFun (can_all _ hy) a) b) c) d) e) x).trans ?_
 exact canX_eq hl hx hb.1 hb.2.1 hb.2.2
end Go.Ra
