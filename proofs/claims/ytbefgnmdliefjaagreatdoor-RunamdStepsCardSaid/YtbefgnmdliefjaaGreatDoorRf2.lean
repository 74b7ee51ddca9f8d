/-
  The document's memory: a byte got and put; whether bytes may be used. Conditions: none.
-/
import Derived.Test.YtbefgnmdliefjaaGreatDoorPk16
open Go.Proofs.Tryz (prog)
open Bool renaming and_eq_true_iff→ZA0,and_eq_true→ZA2,or_eq_true→ZA3
set_option linter.unusedVariables false
set_option linter.unusedSimpArgs false
namespace Go.Ra
open Go Go.Ab Go.Proofs
noncomputable def UU:Cx:={ P:=prog,n:=Tryz.f133.ntmps,tab:=[],mtab:=[],refs:=[],keeps:=[0,1,4],rtab:=[(48,MA)],lz:=[18] }
noncomputable def WD:Cx:={ P:=prog,n:=Tryz.f50.ntmps,tab:=[],mtab:=[],refs:=[],keeps:=[0,1,2],rtab:=[(48,MA)],lz:=[20] }
theorem aYF:aW UU:=⟨.nil _,.nil _,.cons aEX (.nil _),fun p h=>by cases h⟩
theorem aZF:aW WD:=⟨.nil _,.nil _,.cons aEX (.nil _),fun p h=>by cases h⟩
def HH (x:Int):Nat:=0+Int.toNat (Int.tmod x 4096)*1
def PB {α:Type} (x:Int) (l:List Int) (v:Option α):Option α:=cond (inside (Int.tmod x 4096) 4096) (cond (Nat.blt (HH x) l.length) v none) none
def PE {α:Type} (k:Int) (a b c d e:List Int) (f:List Int->(List Int->List O)->Option α):Option α:=
 cond (k==1) (f a (fun l=>aO l b c d e)) (cond (k==2) (f b (fun l=>aO a l c d e)) (cond (k==16) (f c (fun l=>aO a b l d e)) (cond (k==17) (f d (fun l=>aO a b c l e)) (cond (k==32) (f e (fun l=>aO a b c d l)) none))))
theorem a5A (a b c d e:List Int) (x:Int):(HP UU Tryz.f133 [.ptr 0 0,.int .u64 x] (aO a b c d e)).fin =
  cond (lens5 a b c d e) (PE (aQ x) a b c d e (fun l _=>PB x l (some (.int .u8 (l.getD (HH x) 0))))) none:=by kernel_rfl
theorem a81 (a b c d e:List Int) (x v:Int):(dF WD Tryz.f50 [.ptr 0 0,.int .u64 x,.int .u8 v] (aO a b c d e)).fin =
  cond (lens5 a b c d e) (PE (aQ x) a b c d e (fun l H=>PB x l (some (.ok (.tup []) (H (l.set (HH x) v)))))) none:=by kernel_rfl
theorem TO (x:Int):HH x=nQ x:=by
 unfold HH nQ;omega
theorem aKL {α:Type} {x:Int} {l:List Int} {v:Option α} (h:rng64 x=true) (b:l.length=4096):PB x l v=v:=by
 obtain ⟨a,h2⟩:=aJX h;unfold PB;rw [a,cond_true,TO]
 have:Nat.blt (nQ x) l.length=true:=by
  rw [b];exact Nat.ble_eq_true_of_le h2
 rw [this];rfl
def M3:RSpec:=fun args H=>match args with
 | [.ptr 0 0,.int .u64 x]=>mX (fun a b c d e=>.aF (rng64 x&&iS (aQ x)) (.leaf (.int .u8 (iO a b c d e x)))) H
 | _=>.fail
theorem aG5:nF prog 133 M3:=by
 intro args H out h;unfold M3 at h;split at h;rotate_left
 ·cases h
 rename_i x;obtain ⟨a,b,c,d,e,rfl,hl,h⟩:=nZ h;obtain ⟨g,h⟩:=aM h;cases h;obtain ⟨i,f⟩:=ZA0.1 g;obtain ⟨j,l2,l3,l4,l5⟩:=A5 hl;refine SV (cx:=UU) (fn:=Tryz.f133) aYF (by kernel_rfl) (by kernel_rfl) (by kernel_rfl) (by kernel_rfl) _ _ _ ?_;rw [<- Tree.bJ,a5A,hl,cond_true];unfold PE iO q7;simp only [aKL i,j,l2,l3,l4,l5,TO];simp only [iS,ZA3,beq_iff_eq] at f
 rcases f with f | f | f | f | f <;> rw [f] <;> rfl
def M5:MSpec:=fun args H=>match args with
 | [.ptr 0 0,.int .u64 x,.int .u8 v]=>mX (fun a b c d e=>.aF (rng64 x&&iS (aQ x)) (.leaf (.ok (.tup []) (aO (cP 1 x v a) (cP 2 x v b) (cP 16 x v c) (cP 17 x v d) (cP 32 x v e))))) H
 | _=>.fail
theorem aGV:bP prog 50 M5:=by
 intro args H out h;unfold M5 at h;split at h;rotate_left
 ·cases h
 rename_i x v;obtain ⟨a,b,c,d,e,rfl,hl,h⟩:=nZ h;obtain ⟨g,h⟩:=aM h;cases h;obtain ⟨i,f⟩:=ZA0.1 g;obtain ⟨j,l2,l3,l4,l5⟩:=A5 hl;refine fA (cx:=WD) (fn:=Tryz.f50) aZF (by kernel_rfl) (by kernel_rfl) _ _ _ ?_;refine nC (by kernel_rfl) ?_;rw [<- Tree.bJ,a81,hl,cond_true];unfold PE cP;simp only [aKL i,j,l2,l3,l4,l5,TO];simp only [iS,ZA3,beq_iff_eq] at f
 rcases f with f | f | f | f | f <;> rw [f] <;> rfl
noncomputable def nG:Cx:={ P:=prog,n:=Tryz.f49.ntmps,tab:=[],mtab:=[],refs:=[],keeps:=[0,1,2,3,8,9,10,20,23,35,61],rtab:=[(48,CS)],lz:=[55],fuel:=9 }
theorem EY:aW nG:=⟨.nil _,.nil _,.cons JW (.nil _),fun p h=>by cases h⟩
noncomputable def DO (y:Nat × Int) (a b c d e:List Int) (x:Int):Option V:=(HP nG Tryz.f49 [.ptr 0 0,.int .u64 x,.int .i64 (y.1:Int),.int .i64 y.2] (aO a b c d e)).fin
def OW (a b:Int):Int:=IntKind.wrap .i64 (((BitVec.ofInt 64 a &&& BitVec.ofInt 64 b).toNat:Nat):Int)
def K2 (p:Int):Int:=pJ CN (0+(cD p).toNat*3+1)
def AF (L:Bool) (r p:Int) (k:Option V):Option V:=
 cond L (cond (decide (cD p<0)) (some (.bool false)) (cond (decide (0<r)) (cond (inside (cD p) 5) (cond (n9 .i64 CN (0+(cD p).toNat*3+1)) (cond (OW (K2 p) r==0) (some (.bool false)) k) none) none) k)) none
def canGo (L:Bool) (x r:Int):Nat->Nat->Option V
 | 0,_=>some (.bool true)
 | m+1,i=>cond (Nat.blt 0 i) (cond (Int.tmod (a8 x i) 4096 != 0) (canGo L x r m (i+1)) (AF L r (aQ (a8 x i)) (canGo L x r m (i+1)))) (AF L r (aQ (a8 x i)) (canGo L x r m (i+1)))
def uO (y:Nat × Int) (a b c d e:List Int) (x:Int):Option V:=cond (decide (IntKind.wrap .u64 (18446744073709551615 - x)<((y.1:Int) - 1))) (some (.bool false)) (canGo (lens5 a b c d e) x y.2 y.1 0)
def kM:List (Nat × Int):=[(1,0),(2,0),(4,0),(8,0),(1,2),(2,2),(4,2),(8,2),(1,4),(2,4),(4,4),(8,4),(1,1),(2,1),(3,1),(4,1)]
theorem agW:(kM.take 4).map DO=(kM.take 4).map uO:=by kernel_rfl
theorem ajI:((kM.drop 4).take 4).map DO=((kM.drop 4).take 4).map uO:=by kernel_rfl
theorem ahP:((kM.drop 8).take 4).map DO=((kM.drop 8).take 4).map uO:=by kernel_rfl
theorem aiC:(kM.drop 12).map DO=(kM.drop 12).map uO:=by kernel_rfl
theorem a5H:∀ y ∈ kM,DO y=uO y:=by
 have e:kM=kM.take 4++((kM.drop 4).take 4++((kM.drop 8).take 4++kM.drop 12)):=rfl
 have h:kM.map DO=kM.map uO:=by
  rw [e];simp only [List.map_append,agW,ajI,ahP,aiC]
 exact List.map_inj_left.1 h
theorem aH9 {r:Int} (a:r=0\/r=1\/r=2\/r=4) (p:Int) (k:Option V):AF true r p k=cond (iH r p) k (some (.bool false)):=by
 by_cases h1:p=1
 ·subst h1
  rcases a with rfl | rfl | rfl | rfl <;> rfl
 by_cases h2:p=2
 ·subst h2
  rcases a with rfl | rfl | rfl | rfl <;> rfl
 by_cases h3:p=16
 ·subst h3
  rcases a with rfl | rfl | rfl | rfl <;> rfl
 by_cases h4:p=17
 ·subst h4
  rcases a with rfl | rfl | rfl | rfl <;> rfl
 by_cases h5:p=32
 ·subst h5
  rcases a with rfl | rfl | rfl | rfl <;> rfl
 have e:∀ k:Int,p ≠ k->(p==k)=false:=fun k h=>by simpa using h
 have hi:cD p = -1:=by
  unfold cD;rw [e 1 h1,e 2 h2,e 16 h3,e 17 h4,e 32 h5];rfl
 have b:iH r p=false:=by
  unfold iH rC;rw [e 1 h1,e 2 h2,e 16 h3,e 17 h4,e 32 h5];rfl
 unfold AF;rw [hi,b];rfl
theorem T7 {x:Int} (a:0<=x) (b:x<18446744073709551616):aQ x=x / 4096:=pD (by
 simp only [rng64,ZA2,decide_eq_true_eq]
 exact ⟨a,b⟩)
theorem aJN {x:Int} {j:Nat} (a:0<=x) (b:x+j<18446744073709551616):a8 x j=x+j:=by
 have e:a8 x j=(x+(j:Int) % 18446744073709551616) % 18446744073709551616:=rfl;rw [e];omega
theorem aH1 {x r:Int} {n:Nat} (d:r=0\/r=1\/r=2\/r=4) (b:0<=x) (p:n<=16) (c:x+n - 1<18446744073709551616):∀ (m i:Nat),1<=i->i+m=n ->
  canGo true x r m i=some (.bool (aQ (x+n - 1)==aQ (x+i - 1) || iH r (aQ (x+n - 1))))
 | 0,i,hi,hm=>by
  have:(i:Int)=n:=by omega
  rw [this,beq_self_eq_true];rfl
 | m+1,i,hi,hm=>by
  have e:=aH1 d b p c m (i+1) (by omega) (by omega);have l:=aJN (x:=x) (j:=i) b (by omega);have f:aQ (x+n - 1)=(x+n - 1) / 4096:=T7 (by omega) c;have g:aQ (x+i)=(x+i) / 4096:=T7 (by omega) (by omega);have h:aQ (x+i - 1)=(x+i - 1) / 4096:=T7 (by omega) (by omega)
  have o:(x:Int)+((i+1:Nat):Int) - 1=x+i:=by omega
  rw [o] at e;have hb:Nat.blt 0 i=true:=Nat.ble_eq_true_of_le hi;unfold canGo;rw [hb,cond_true,l,aH9 d,e];have et:Int.tmod (x+i) 4096=(x+i) % 4096:=Int.tmod_eq_emod_of_nonneg (by omega);rw [et];by_cases hz:(x+i) % 4096=0
  ·have e0:((x+i) % 4096 != 0)=false:=by simpa using hz
   have a:aQ (x+n - 1)=aQ (x+i):=by
    rw [f,g];omega
   have k:(aQ (x+n - 1)==aQ (x+i - 1))=false:=by
    rw [beq_eq_false_iff_ne,f,h];omega
   rw [e0,cond_false,k,a,beq_self_eq_true,Bool.false_or,Bool.true_or];cases iH r (aQ (x+i)) <;> rfl
  ·have e0:((x+i) % 4096 != 0)=true:=by simpa using hz
   have a:aQ (x+i)=aQ (x+i - 1):=by
    rw [g,h];omega
   rw [e0,cond_true,a]
theorem aHX {a b c d e:List Int} {x r:Int} {n:Nat} (t:lens5 a b c d e=true) (f:rng64 x=true) (l:r=0\/r=1\/r=2\/r=4) (v:1<=n) (u:n<=16) :
  uO (n,r) a b c d e x=some (.bool (cM x (n:Int) r)):=by
 unfold uO cM;rw [t];have h := f;simp only [rng64,ZA2,decide_eq_true_eq] at f
 have k:IntKind.wrap .u64 (18446744073709551615 - x)=18446744073709551615 - x:=by
  show (18446744073709551615 - x) % 18446744073709551616=_;omega
 have i:jC x (n:Int)=((x+(n:Int) % 18446744073709551616) % 18446744073709551616 - 1) % 18446744073709551616:=rfl;by_cases hov:18446744073709551615 - x<(n:Int) - 1
 ·rw [k,decide_eq_true hov,cond_true,decide_eq_false (by rw [i]; omega)]
  rfl
 ·have hle:x<=jC x (n:Int):=by
   rw [i];omega
  have s:=LG h (by omega) (by omega) hle;rw [k,decide_eq_false hov,cond_false,decide_eq_true hle,Bool.true_and,s];obtain ⟨m,rfl⟩:∃ m,n=m+1:=⟨n - 1,by omega⟩;have g:=aH1 (x:=x) (n:=m+1) l f.1 u (by omega) m 1 (by omega) (by omega);have q:=aJN (x:=x) (j:=0) f.1 (by omega)
  have o:x+((0:Nat):Int)=x:=by omega
  have p:x+((1:Nat):Int) - 1=x:=by omega
  rw [p] at g;unfold canGo;have hb:Nat.blt 0 0=false:=rfl;rw [hb,cond_false,q,o,aH9 l,g];cases iH r (aQ x) <;> rfl
def akA (n r:Int):Bool:=kM.any fun y=>((y.1:Int)==n)&&(y.2==r)
def ZP:RSpec:=fun args H=>match args with
 | [.ptr 0 0,.int .u64 x,.int .i64 n,.int .i64 r]=>mX (fun _ _ _ _ _=>.aF (rng64 x&&akA n r) (.leaf (.bool (cM x n r)))) H
 | _=>.fail
theorem a64:nF prog 49 ZP:=by
 intro args H out h;unfold ZP at h;split at h;rotate_left
 ·cases h
 rename_i x n r;obtain ⟨a,b,c,d,e,rfl,hl,h⟩:=nZ h;obtain ⟨g,h⟩:=aM h;cases h;obtain ⟨i,hn⟩:=ZA0.1 g;obtain ⟨y,hy,hq⟩:=List.any_eq_true.1 hn;simp only [ZA2,beq_iff_eq] at hq;obtain ⟨f,q2⟩:=hq;obtain ⟨m,r'⟩:=y;simp only at f q2;subst f q2
 have hb:(r' = 0\/r' = 1\/r' = 2\/r' = 4)/\1<=m/\m<=16:=by
  simp only [kM,List.mem_cons,Prod.mk.injEq,List.not_mem_nil,or_false] at hy;omega
 refine SV (cx:=nG) (fn:=Tryz.f49) EY (by kernel_rfl) (by kernel_rfl) (by kernel_rfl) (by kernel_rfl) _ _ _ ?_;rw [<- Tree.bJ];refine (congrFun (congrFun (congrFun (congrFun (congrFun (congrFun (a5H _ hy) a) b) c) d) e) x).trans ?_;exact aHX hl i hb.1 hb.2.1 hb.2.2
end Go.Ra
