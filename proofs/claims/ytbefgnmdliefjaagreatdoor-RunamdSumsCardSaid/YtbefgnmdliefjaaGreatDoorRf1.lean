/-
  The document's memory, of five pages: find; a byte got and put. Conditions: none.
-/
import Derived.Test.YtbefgnmdliefjaaGreatDoorPk18
import Derived.Test.YtbefgnmdliefjaaGreatDoorPk17
import Derived.Test.YtbefgnmdliefjaaGreatDoorPk24
set_option linter.unusedVariables false
set_option linter.unusedSimpArgs false
namespace Go.Ra
open Go Go.Ab Go.Proofs
def rRow (n r:Int) (id:Nat):List V:=[.int .u64 n,.int .i64 r,.ref id 1 0 4096]
def rRows:List V:=rRow 1 5 2++(rRow 2 5 3++(rRow 16 6 4++(rRow 17 6 5++rRow 32 4 6)))
def rPg (l:List Int):O:=.obj (.page 0 .u8 l) []
def refH (l:V) (A B C D E:List Int):List O:=[.cells [.ref 1 3 0 5,l] 58,.cells rRows 0,rPg A,rPg B,rPg C,rPg D,rPg E]
def lastV:V:=.rng .i64 0 5
abbrev refO (A B C D E:List Int):List O:=refH lastV A B C D E
def refM {α:Type} (f:List Int→List Int→List Int→List Int→List Int→Tree α):List O→Tree α
 | [.cells [.ref 1 3 0 5,.rng .i64 0 5] t,.cells [.int .u64 n1,.int .i64 r1,.ref 2 1 0 4096,.int .u64 n2,.int .i64 r2,.ref 3 1 0 4096,.int .u64 n3,.int .i64 r3,.ref 4 1 0 4096,.int .u64 n4,.int .i64 r4,.ref 5 1 0 4096,.int .u64 n5,.int .i64 r5,.ref 6 1 0 4096] u,
   .obj (.page 0 .u8 a) [],.obj (.page 0 .u8 b) [],.obj (.page 0 .u8 c) [],.obj (.page 0 .u8 d) [],.obj (.page 0 .u8 e) []] =>
  .req (Nat.beq t 58 && (Nat.beq u 0 && ([n1,r1,n2,r2,n3,r3,n4,r4,n5,r5] == [1,5,2,5,16,6,17,6,32,4] && lens5 a b c d e))) (f a b c d e)
 | _=>.fail
theorem refM_run {α:Type} {f:List Int→List Int→List Int→List Int→List Int→Tree α} {H:List O} {out:α} (h:(refM f H).run=some out) :
  ∃ a b c d e,H=refO a b c d e∧lens5 a b c d e=true∧(f a b c d e).run=some out:=by
 unfold refM at h
 split at h
 rotate_left
 ·cases h
 rename_i t n1 r1 n2 r2 n3 r3 n4 r4 n5 r5 u a b c d e
 obtain ⟨h1,h2⟩:=req_run h
 simp only [Bool.and_eq_true] at h1
 obtain ⟨g0,g1,g2,g3⟩:=h1
 have g0:=Nat.eq_of_beq_eq_true g0
 have g1:=Nat.eq_of_beq_eq_true g1
 have g2:=eq_of_beq g2
 simp only [List.cons.injEq,and_true] at g2
 obtain ⟨k1,k2,k3,k4,k5,k6,k7,k8,k9,k10⟩:=g2
 subst g0 g1 k1 k2 k3 k4 k5 k6 k7 k8 k9 k10
 exact ⟨a,b,c,d,e,rfl,g3,h2⟩
noncomputable def cxRfind:Cx:={ P:=Tryz.prog,n:=Tryz.f48.ntmps,tab:=[],mtab:=[],refs:=[],keeps:=[0,1,4,5,30,41,53],fuel:=8 }
noncomputable def findE (l:Nat) (A B C D E:List Int) (n:Int):Option Res:=(mfun cxRfind Tryz.f48 [.ptr 0 0,.int .u64 n] (refH (.int .i64 (l:Int)) A B C D E)).fin
def fdK (i:Int) (A B C D E:List Int):Option Res:=some (.ok (.int .i64 i) (refH (.int .i64 i) A B C D E))
def findX (l:Nat) (A B C D E:List Int) (n:Int):Option Res:=
 cond ([(1:Int),2,16,17,32].getD l 0 == n) (fdK (l:Int) A B C D E) (cond ((1:Int) == n) (fdK 0 A B C D E) (cond ((2:Int) == n) (fdK 1 A B C D E) (cond ((16:Int) == n) (fdK 2 A B C D E) (cond ((17:Int) == n) (fdK 3 A B C D E) (cond ((32:Int) == n) (fdK 4 A B C D E)
  (some (.ok (.int .i64 (-1)) (refH (.int .i64 (l:Int)) A B C D E))))))))
theorem find_all:[0,1,2,3,4].map findE=[0,1,2,3,4].map findX:=by kernel_rfl
def idxF (n:Int):Int:=cond (n == 1) 0 (cond (n == 2) 1 (cond (n == 16) 2 (cond (n == 17) 3 (cond (n == 32) 4 (-1)))))
theorem findX_eq (l:Nat) (hl:l<5) (A B C D E:List Int) (n:Int):∃ l' : Int,0≤l' ∧ l' < 5∧findX l A B C D E n=some (.ok (.int .i64 (idxF n)) (refH (.int .i64 l') A B C D E)):=by
 have sw:∀ k:Int,(k == n)=(n == k):=fun k=>by
  cases h:n == k
  ·simpa using fun e:k=n=>by simp [e] at h
  ·have:n=k:=by simpa using h
   simp [this]
 unfold findX fdK idxF
 rw [sw,sw,sw,sw,sw,sw]
 by_cases h1:n=1
 ·subst h1
  refine ⟨0,by omega,by omega,?_⟩
  match l,hl with
  | 0,_ | 1,_ | 2,_ | 3,_ | 4,_=>rfl
 by_cases h2:n=2
 ·subst h2
  refine ⟨1,by omega,by omega,?_⟩
  match l,hl with
  | 0,_ | 1,_ | 2,_ | 3,_ | 4,_=>rfl
 by_cases h3:n=16
 ·subst h3
  refine ⟨2,by omega,by omega,?_⟩
  match l,hl with
  | 0,_ | 1,_ | 2,_ | 3,_ | 4,_=>rfl
 by_cases h4:n=17
 ·subst h4
  refine ⟨3,by omega,by omega,?_⟩
  match l,hl with
  | 0,_ | 1,_ | 2,_ | 3,_ | 4,_=>rfl
 by_cases h5:n=32
 ·subst h5
  refine ⟨4,by omega,by omega,?_⟩
  match l,hl with
  | 0,_ | 1,_ | 2,_ | 3,_ | 4,_=>rfl
 have e:∀ k:Int,n ≠ k→(n == k)=false:=fun k h=>by simpa using h
 rw [e 1 h1,e 2 h2,e 16 h3,e 17 h4,e 32 h5]
 refine ⟨(l:Int),by omega,by omega,?_⟩
 have:(n == [(1:Int),2,16,17,32].getD l 0)=false:=by
  match l,hl with
  | 0,_=>exact e 1 h1
  | 1,_=>exact e 2 h2
  | 2,_=>exact e 16 h3
  | 3,_=>exact e 17 h4
  | 4,_=>exact e 32 h5
 rw [this]
 rfl
theorem find_mcall (A B C D E:List Int) (n:Int):MCall Tryz.prog 48 [.ptr 0 0,.int .u64 n] (refO A B C D E) (.ok (.int .i64 (idxF n)) (refO A B C D E)):=by
 refine mcall_rng (A:=[]) (pre:=[.ref 1 3 0 5]) (post:=[]) (k:=.i64) (lo:=0) (hi:=5) (by decide) fun l h0 h1=>?_
 obtain ⟨m,rfl⟩:=Int.eq_ofNat_of_zero_le h0
 obtain ⟨l',g0,g1,g2⟩:=findX_eq m (by omega) A B C D E n
 refine ⟨l',g0,g1,?_⟩
 refine msound_fun (cx:=cxRfind) (fn:=Tryz.f48) (cx0_ok rfl rfl) (by kernel_rfl) (by kernel_rfl) _ _ _ ?_
 refine run_req (by kernel_rfl) ?_
 rw [← Tree.fin_run]
 have hm:m ∈ [0,1,2,3,4]:=by
  simp only [List.mem_cons,List.not_mem_nil,or_false]
  omega
 exact (congrFun (congrFun (congrFun (congrFun (congrFun (congrFun (List.map_inj_left.1 find_all m hm) A) B) C) D) E) n).trans g2
def findR:RSpec:=fun args H=>match args with
 | [.ptr 0 0,.int .u64 n]=>refM (fun _ _ _ _ _=>.leaf (.int .i64 (idxF n))) H
 | _=>.fail
theorem findR_ok:RSound Tryz.prog 48 findR:=by
 intro args H v h
 unfold findR at h
 split at h
 rotate_left
 ·cases h
 obtain ⟨a,b,c,d,e,rfl,_,h⟩:=refM_run h
 cases h
 exact find_mcall _ _ _ _ _ _
def findRT:RSpec:=fun args H=>match args with
 | [.ptr 0 0,.int .u64 n]=>refM (fun _ _ _ _ _=>.br (n == 1) (.leaf (.int .i64 0)) (.br (n == 2) (.leaf (.int .i64 1)) (.br (n == 16) (.leaf (.int .i64 2)) (.br (n == 17) (.leaf (.int .i64 3)) (.br (n == 32) (.leaf (.int .i64 4)) .fail))))) H
 | _=>.fail
theorem findRT_ok:RSound Tryz.prog 48 findRT:=by
 intro args H v h
 unfold findRT at h
 split at h
 rotate_left
 ·cases h
 rename_i n
 obtain ⟨a,b,c,d,e,rfl,_,h⟩:=refM_run h
 have g:=find_mcall a b c d e n
 have k:v = .int .i64 (idxF n):=by
  unfold idxF
  revert h
  simp only [Tree.run]
  cases n == 1 <;> cases n == 2 <;> cases n == 16 <;> cases n == 17 <;> cases n == 32 <;> intro h <;> first | (cases h; rfl) | cases h
 rw [k]
 exact g
end Go.Ra
