/-
  The document's memory: a byte got and put; whether bytes may be used. Conditions: none.
-/
import Derived.Test.YtbefgnmdliefjaaGreatDoorPk16
set_option linter.unusedVariables false
set_option linter.unusedSimpArgs false
namespace Go.Ra
open Go Go.Ab Go.Proofs
noncomputable def cxRput:Cx:={ P:=Tryz.prog,n:=Tryz.f50.ntmps,tab:=[],mtab:=[],refs:=[],keeps:=[0,1,2],rtab:=[(48,findRT)],lz:=[20] }
theorem cxRput_ok:CxOk cxRput:=⟨.nil _,.nil _,.cons findRT_ok (.nil _),fun p h=>by cases h⟩
def offR (x:Int):Nat:=0+Int.toNat (Int.tmod x 4096)*1
def inR {α:Type} (x:Int) (l:List Int) (v:Option α):Option α:=cond (inside (Int.tmod x 4096) 4096) (cond (Nat.blt (offR x) l.length) v none) none
def pgS {α:Type} (k:Int) (a b c d e:List Int) (f:List Int→(List Int→List O)→Option α):Option α:=
 cond (k == 1) (f a (fun l=>refO l b c d e)) (cond (k == 2) (f b (fun l=>refO a l c d e)) (cond (k == 16) (f c (fun l=>refO a b l d e)) (cond (k == 17) (f d (fun l=>refO a b c l e)) (cond (k == 32) (f e (fun l=>refO a b c d l)) none))))
theorem putr_eq (a b c d e:List Int) (x v:Int):(mfun cxRput Tryz.f50 [.ptr 0 0,.int .u64 x,.int .u8 v] (refO a b c d e)).fin =
  cond (lens5 a b c d e) (pgS (pgF x) a b c d e (fun l H=>inR x l (some (.ok (.tup []) (H (l.set (offR x) v)))))) none:=by kernel_rfl
theorem offR_eq (x:Int):offR x=offF x:=by
 unfold offR offF
 omega
theorem inR_eq {α:Type} {x:Int} {l:List Int} {v:Option α} (h:rng64 x=true) (hl:l.length=4096):inR x l v=v:=by
 obtain ⟨h1,h2⟩:=off_lt h
 unfold inR
 rw [h1,cond_true,offR_eq]
 have:Nat.blt (offF x) l.length=true:=by
  rw [hl]
  exact Nat.ble_eq_true_of_le h2
 rw [this]
 rfl
def putRf:MSpec:=fun args H=>match args with
 | [.ptr 0 0,.int .u64 x,.int .u8 v]=>refM (fun a b c d e=>.req (rng64 x && isPg (pgF x)) (.leaf (.ok (.tup []) (refO (setF 1 x v a) (setF 2 x v b) (setF 16 x v c) (setF 17 x v d) (setF 32 x v e))))) H
 | _=>.fail
theorem putRf_ok:MSound Tryz.prog 50 putRf:=by
 intro args H out h
 unfold putRf at h
 split at h
 rotate_left
 ·cases h
 rename_i x v
 obtain ⟨a,b,c,d,e,rfl,hl,h⟩:=refM_run h
 obtain ⟨h1,h⟩:=req_run h
 cases h
 obtain ⟨hx,hk⟩:=Bool.and_eq_true_iff.1 h1
 obtain ⟨l1,l2,l3,l4,l5⟩:=lens5_spec hl
 refine msound_fun (cx:=cxRput) (fn:=Tryz.f50) cxRput_ok (by kernel_rfl) (by kernel_rfl) _ _ _ ?_
 refine run_req (by kernel_rfl) ?_
 rw [← Tree.fin_run,putr_eq,hl,cond_true]
 unfold pgS setF
 simp only [inR_eq hx,l1,l2,l3,l4,l5,offR_eq]
 simp only [isPg,Bool.or_eq_true,beq_iff_eq] at hk
 rcases hk with hk | hk | hk | hk | hk <;> rw [hk] <;> rfl
def andI (a b:Int):Int:=IntKind.wrap .i64 (((BitVec.ofInt 64 a &&& BitVec.ofInt 64 b).toNat:Nat):Int)
def rightAt (p:Int):Int:=intAt rRows (0+(idxF p).toNat*3+1)
def canC (L:Bool) (r p:Int) (k:Option V):Option V:=
 cond L (cond (decide (idxF p<0)) (some (.bool false)) (cond (decide (0<r)) (cond (inside (idxF p) 5) (cond (isIntAt .i64 rRows (0+(idxF p).toNat*3+1)) (cond (andI (rightAt p) r == 0) (some (.bool false)) k) none) none) k)) none
def canGo (L:Bool) (x r:Int):Nat→Nat→Option V
 | 0,_=>some (.bool true)
 | m+1,i=>cond (Nat.blt 0 i) (cond (Int.tmod (adr x i) 4096 != 0) (canGo L x r m (i+1)) (canC L r (pgF (adr x i)) (canGo L x r m (i+1)))) (canC L r (pgF (adr x i)) (canGo L x r m (i+1)))
end Go.Ra
