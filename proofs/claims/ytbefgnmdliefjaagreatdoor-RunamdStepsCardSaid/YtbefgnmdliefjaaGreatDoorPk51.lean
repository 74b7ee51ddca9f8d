/-
  The program's memory: all bytes of a page. Conditions: none.
-/
import Derived.Test.YtbefgnmdliefjaaGreatDoorPk14
import Derived.Test.YtbefgnmdliefjaaGreatDoorPk12
import Derived.Test.YtbefgnmdliefjaaGreatDoorPk18
import Derived.Test.YtbefgnmdliefjaaGreatDoorPk28
import Derived.Test.YtbefgnmdliefjaaGreatDoorPk47
open Go.IntKind (wrap i64 u64 u8)
open Go.Proofs.Tryz (prog)
open Bool renaming and_eq_true_iff→ZA0,and_eq_true→ZA2,or_eq_true→ZA3
open List renaming getD_eq_getElem?_getD→ZG0
open Option renaming map_eq_some_iff→ZH0
set_option linter.unusedVariables false
set_option linter.unusedSimpArgs false
namespace Go.Ra
open Go Go.Ab Go.Proofs
noncomputable def uL:Cx:={ P:=prog,n:=Tryz.f42.ntmps,tab:=[],mtab:=[(30,wD),(31,L6),(33,getM)],refs:=[],keeps:=[0,1,2,6,7,8,9,10,17,30,31,32],lz:=[28,42] }
theorem LD:aW uL:=bU (.nil _) (.cons vH (.cons aFB (.cons T0 fun p h=>by cases h))) rfl rfl
noncomputable abbrev u5:Code:=cA Tryz.f42
def fG (l:List Int):O:=.obj (.page 0 .u8 l) []
def uP (a b c d e:List Int) (x:Int):Nat->List Int
 | 0=>eK
 | n+1=>(uP a b c d e x n).set n (iO a b c d e (a8 x n))
theorem JV (a b c d e:List Int) (x:Int):∀ n,(uP a b c d e x n).length=4096
 | 0=>List.length_replicate
 | n+1=>List.length_set.trans (JV a b c d e x n)
theorem aGD (a b c d e:List Int) (x:Int):∀ n i,i<n->n<=4096->(uP a b c d e x n).getD i 0=iO a b c d e (a8 x i)
 | n+1,i,hi,hn=>by
  have f:=JV a b c d e x n;rw [ZG0];show (((uP a b c d e x n).set n (iO a b c d e (a8 x n)))[i]?).getD 0=_;rw [List.getElem?_set];by_cases h:n=i
  ·subst h
   rw [if_pos rfl,if_pos (by omega)];rfl
  ·rw [if_neg h,<- ZG0]
   exact aGD a b c d e x n i (by omega) (by omega)
def uX (x i:Int):T:=[(0,.ptr 0 0),(1,.int .u64 x),(8,.ref 7 1 0 4096),(30,.int .i64 4096),(31,.int .i64 i)]
def aIF (x:Int) (i:Nat) (L a b c d e:List Int):Tree St:=
 .br (decide ((i:Int)<4096)) (.br (lens5 a b c d e) (.br (usable (a8 x i)) (.br (inside i 4096) (.br (Nat.ble 0 (0+i*1)&&Nat.blt (0+i*1 - 0) L.length) (.leaf (.normal,uX x (wrap .i64 ((i:Int)+1)),aR a b c d e++[fG (L.set (0+i*1 - 0) (iO a b c d e (a8 x i)))])) .fail) .fail) .fail) .fail)
  (.leaf (.exit 1,uX x i,aR a b c d e++[fG L]))
theorem aUF (x:Int) (i:Nat) (L a b c d e:List Int) :
  ((aK uL (cin (cin (c2 (c1 (aJ 2 u5))))) (uX x i) (aR a b c d e++[fG L])).bind (rD 8 [] [0,1,8,30,31])).run=(aIF x i L a b c d e).run:=
 (show _=(aIF x i L a b c d e).out by kernel_rfl).trans (Tree.out_run _)
def V5 (x n:Int) (a b c d e:List Int):Option St:=
 cond (decide (n<0)) (some (.ret,[(0,.ptr 0 0),(1,.int .u64 x)],aR a b c d e)) (cond (decide (1048576<n)) (some (.ret,[(0,.ptr 0 0),(1,.int .u64 x)],aR a b c d e)) (cond (lens5 a b c d e) (cond (wK x n 4)
  (cond (decide (0<=n)&&decide (n<=n)&&roomy n.toNat 1) (some (.normal,[(0,.ptr 0 0),(1,.int .u64 x),(8,.ref 7 1 0 n.toNat)],aR a b c d e++[fG (List.replicate n.toNat 0)])) none) none) none))
theorem a5S (x n:Int) (a b c d e:List Int):((aK uL (eQ 2 u5) (dZ 0 [.ptr 0 0,.int .u64 x,.int .i64 n]) (aR a b c d e)).bind (nR [0,1,8])).run=V5 x n a b c d e:=by kernel_rfl
theorem a25 (x:Int) (L a b c d e:List Int):((aK uL (c1 (c1 (aJ 2 u5))) [(0,.ptr 0 0),(1,.int .u64 x),(8,.ref 7 1 0 4096)] (aR a b c d e++[fG L])).bind (nR [0,1,8,30,31])).run =
  some (.normal,uX x 0,aR a b c d e++[fG L]):=by kernel_rfl
theorem abY (x:Int) (L a b c d e:List Int):((aK uL (aJ 3 u5) (uX x 4096) (aR a b c d e++[fG L])).bind (iY prog Tryz.f42.results.toList)).run=some (.ok (.tup [.ref 7 1 0 4096,.int .i64 0]) (aR a b c d e++[fG L])):=by kernel_rfl
theorem a01 {x:Int} (a:0<=x):nQ x=(x % 4096).toNat:=by
 unfold nQ;rw [Int.tmod_eq_emod_of_nonneg a];omega
theorem a03 {k:Int} {i:Nat} (j:0<=k) (l:k<100) (hi:i<4096) (a b c d e:List Int):iO a b c d e (a8 (4096*k) i)=(q7 k a b c d e).getD i 0:=by
 have h:a8 (4096*k) i=4096*k+i:=JO (by omega) (by omega);unfold iO;rw [h,Q0 (by omega) (by omega),a01 (by omega)]
 have f:(4096*k+(i:Int)) / 4096=k:=by omega
 have g:((4096*k+(i:Int)) % 4096).toNat=i:=by omega
 rw [f,g]
theorem a2Y {a b c d e:List Int} (f:lens5 a b c d e=true) (k:Int):(q7 k a b c d e).length=4096:=by
 obtain ⟨g,l2,l3,l4,l5⟩:=A5 f;unfold q7;cases k==1 <;> cases k==2 <;> cases k==16 <;> cases k==17 <;> assumption
theorem a0M {k:Int} (h:0<=k) (j:k<100) {a b c d e:List Int} (l:lens5 a b c d e=true):uP a b c d e (4096*k) 4096=q7 k a b c d e:=by
 have m:=JV a b c d e (4096*k) 4096;have n:=a2Y l k;refine List.ext_getElem (m.trans n.symm) fun i f g=>?_;have:=aGD a b c d e (4096*k) 4096 i (by omega) (Nat.le_refl _);rw [a03 h j (by omega),oD f,oD g] at this;exact this
theorem aT0 {k:Int} (a:iS k=true) {i:Nat} (hi:i<4096):usable (a8 (4096*k) i)=true:=by
 have d : k=1\/k=2\/k=16\/k=17\/k=32:=by simpa [iS] using a
 have c:a8 (4096*k) i=4096*k+i:=JO (by omega) (by omega)
 have b:rng64 (4096*k+i)=true:=by
  simp only [rng64,ZA2,decide_eq_true_eq];omega
 have e:aQ (4096*k+i)=k:=by
  rw [pD b];omega
 unfold usable;rw [c,b,e,a];rfl
def akL (x:Int) (a b c d e:List Int) (i:{ i:Nat // i<=4096 }):T × List O:=(uX x i.1,aR a b c d e++[fG (uP a b c d e x i.1)])
theorem ajN {k:Int} {a b c d e:List Int} (q:iS k=true) (o:lens5 a b c d e=true) :
  dQ prog 42 [.ptr 0 0,.int .u64 (4096*k),.int .i64 4096] (aR a b c d e) (.ok (.tup [.ref 7 1 0 4096,.int .i64 0]) (aR a b c d e++[fG (q7 k a b c d e)])):=by
 have m : k=1\/k=2\/k=16\/k=17\/k=32:=by simpa [iS] using q
 have hb:wK (4096*k) 4096 4=true:=by
  rcases m with rfl | rfl | rfl | rfl | rfl <;> rfl
 rw [<- a0M (k:=k) (by omega) (by omega) o];generalize y:4096*k=x at hb;refine rM (c:=u5) (fn:=Tryz.f42) (by kernel_rfl) (by kernel_rfl) (by kernel_rfl) (by kernel_rfl) ?_
 have v:(decide ((0:Int)<=4096)&&decide ((4096:Int)<=4096)&&roomy (4096:Int).toNat 1)=true:=by decide
 have w:V5 x 4096 a b c d e=some (.normal,[(0,.ptr 0 0),(1,.int .u64 x),(8,.ref 7 1 0 4096)],aR a b c d e++[fG eK]):=by
  unfold V5;rw [o,hb,v];rfl
 refine tF (cx:=uL) rfl rfl LD 2 [0,1,8] (by kernel_rfl) ((qM _ _).symm.trans ((a5S x 4096 a b c d e).trans w)) ?_
 have r:aJ 2 u5 = .seq (.seq (c1 (c1 (aJ 2 u5))) (.block 1 (.loop (cin (cin (c2 (c1 (aJ 2 u5)))))))) (aJ 3 u5):=by kernel_rfl
 rw [r];obtain ⟨s,g1,g2⟩:=ZH0.1 ((qM _ _).symm.trans (a25 x eK a b c d e));refine cL (cL (dA (cx:=uL) rfl rfl LD g1 ?_));obtain ⟨ex,t,H⟩:=s;simp only [Prod.mk.injEq] at g2;obtain ⟨rfl,g2,rfl⟩:=g2;refine mA (aI.less (s:=uX x 0) (g2 ▸ dK.bC _ _) ?_);refine xX (cx:=uL) (P:=prog) (n:=45) rfl rfl LD (akL x a b c d e) (fun i=>4096 - i.1) [] [0,1,8,30,31] ?_ ⟨0,Nat.zero_le _⟩;rintro ⟨i,hi⟩;refine Tree.all_run_eq (aUF x i (uP a b c d e x i) a b c d e) ?_
 have z:=JV a b c d e x i;refine ⟨fun f=>?_,fun g=>?_⟩
 ·have f:i<4096:=Int.ofNat_lt.1 (of_decide_eq_true f)
  have j:(Nat.ble 0 (0+i*1)&&Nat.blt (0+i*1 - 0) (uP a b c d e x i).length)=true:=by
   rw [z,ZA0];exact ⟨Nat.ble_eq_true_of_le (Nat.zero_le _),Nat.ble_eq_true_of_le (by omega)⟩
  refine cN o (cN (y ▸ aT0 q f) (cN (jI (Int.natCast_nonneg i) (Int.ofNat_lt.2 f)) (cN j ⟨⟨i+1,f⟩,by show 4096 - (i+1)<4096 - i; omega,?_,?_⟩)))
  ·rw [wrap_i64 (by omega) (by omega)]
   exact dK.refl _
  ·have u:0+i*1 - 0=i:=by omega
   rw [u];rfl
 ·have g:¬ i<4096:=fun h=>of_decide_eq_false g (Int.ofNat_lt.2 h)
  have l : i=4096:=by omega
  subst l;intro t p;show aI _ _ _ _ _ _;have p:uX x 4096=bC [0,1,8,30,31] t:=p;refine aI.less (s:=uX x 4096) (p ▸ dK.bC _ _) ?_;obtain ⟨s,g1,g2⟩:=bD (abY x (uP a b c d e x 4096) a b c d e);refine dA (cx:=uL) rfl rfl LD g1 ?_;exact xU g2
def U5:MSpec:=fun args H=>match args with
 | [.ptr 0 0,.int .u64 x,.int .i64 n]=>lT (fun a b c d e=>.aF (K0 x&&n==4096) (.leaf (.ok (.tup [.ref 7 1 0 4096,.int .i64 0]) (aR a b c d e++[fG (q7 (aQ x) a b c d e)])))) H
 | _=>.fail
theorem aZL:bP prog 42 U5:=by
 intro args H out h;unfold U5 at h;split at h;rotate_left
 ·cases h
 rename_i x n;obtain ⟨a,b,c,d,e,rfl,hl,h⟩:=m6 h;obtain ⟨l,h⟩:=aM h;cases h;obtain ⟨g,f⟩:=ZA0.1 l
 have f:n=4096:=by simpa using f
 subst f
 have g:x=4096\/x=8192\/x=65536\/x=69632\/x=131072:=by simpa [K0] using g
 have key:∀ k:Int,iS k=true->x=4096*k->dQ prog 42 [.ptr 0 0,.int .u64 x,.int .i64 4096] (aR a b c d e) (.ok (.tup [.ref 7 1 0 4096,.int .i64 0]) (aR a b c d e++[fG (q7 (aQ x) a b c d e)])):=by
  intro k j i
  have m : k=1\/k=2\/k=16\/k=17\/k=32:=by simpa [iS] using j
  have o:aQ x=k:=by
   rw [Q0 (by omega) (by omega)];omega
  rw [o,i];exact ajN j hl
 rcases g with h | h | h | h | h
 ·exact key 1 rfl h
 ·exact key 2 rfl h
 ·exact key 16 rfl h
 ·exact key 17 rfl h
 ·exact key 32 rfl h
end Go.Ra

namespace Go.Ra
open Go Go.Ab Go.Proofs
noncomputable def tS:Cx:={ P:=prog,n:=Tryz.f49.ntmps,tab:=[],mtab:=[],refs:=[],keeps:=[0,1,2,3,8,9,10,20,23,35,61],rtab:=[(48,CS)],lz:=[55] }
theorem KF:aW tS:=⟨.nil _,.nil _,.cons JW (.nil _),fun p h=>by cases h⟩
noncomputable abbrev sS:Code:=cA Tryz.f49
def xR (x n k:Int):T:=[(0,.ptr 0 0),(1,.int .u64 x),(2,.int .i64 n),(3,.int .i64 0),(9,.int .i64 k)]
def UE (x n:Int) (k:Nat) (H:List O):Tree St:=.leaf (.normal,xR x n (wrap .i64 ((k:Int)+1)),H)
def aJV (L:Bool) (x n:Int) (k:Nat) (H:List O):Tree St:=.br L (.br (decide (cD (aQ (a8 x k))<0)) (.leaf (.ret,xR x n k,H)) (UE x n k H)) .fail
def aI9 (x n:Int) (k:Nat) (A B C D E:List Int):Tree St:=
 .br (decide ((k:Int)<n)) (.br (decide (0<(k:Int))) (.br (Int.tmod (a8 x k) 4096 != 0) (UE x n k (aO A B C D E)) (aJV (lens5 A B C D E) x n k (aO A B C D E))) (aJV (lens5 A B C D E) x n k (aO A B C D E)))
  (.leaf (.exit 0,xR x n k,aO A B C D E))
theorem aV0 (x n:Int) (k:Nat) (A B C D E:List Int) :
  ((aK tS (cin (cin (c2 (c1 (aJ 1 sS))))) (xR x n k) (aO A B C D E)).bind (rD 7 [] [0,1,2,3,9])).run=(aI9 x n k A B C D E).run:=
 (show _=(aI9 x n k A B C D E).out by kernel_rfl).trans (Tree.out_run _)
def V2 (x n:Int) (H:List O):Option St:=
 cond (decide (0<n)) (cond (decide (wrap .u64 (18446744073709551615 - x)<wrap .u64 (wrap .i64 (n - 1)))) (some (.ret,[(0,.ptr 0 0),(1,.int .u64 x),(2,.int .i64 n),(3,.int .i64 0)],H)) (some (.normal,[(0,.ptr 0 0),(1,.int .u64 x),(2,.int .i64 n),(3,.int .i64 0)],H)))
  (some (.normal,[(0,.ptr 0 0),(1,.int .u64 x),(2,.int .i64 n),(3,.int .i64 0)],H))
theorem a7O (x n:Int) (H:List O):((aK tS (eQ 1 sS) (dZ 0 [.ptr 0 0,.int .u64 x,.int .i64 n,.int .i64 0]) H).bind (nR [0,1,2,3])).run=V2 x n H:=by kernel_rfl
theorem a4D (x n:Int) (H:List O):((aK tS (c1 (c1 (aJ 1 sS))) [(0,.ptr 0 0),(1,.int .u64 x),(2,.int .i64 n),(3,.int .i64 0)] H).bind (nR [0,1,2,3,9])).run=some (.normal,xR x n 0,H):=by kernel_rfl
theorem acN (H:List O):((aK tS (aJ 2 sS) [] H).bind (iY prog Tryz.f49.results.toList)).run=some (.ok (.bool true) H):=by kernel_rfl
def aOL (x n:Int) (A B C D E:List Int) (k:{ k:Nat // k<=n.toNat }):T × List O:=(xR x n k.1,aO A B C D E)
theorem a3O {x:Int} (a:lK x=true) {i:Nat} (hi:i<8192):¬ cD (aQ (a8 x i))<0:=by
 have h:=PZ a hi;unfold usable at h;obtain ⟨_,h⟩:=ZA0.1 h;simp only [iS,ZA3,beq_iff_eq] at h
 rcases h with h | h | h | h | h <;> rw [h] <;> decide
theorem agH {x n:Int} (g:lK x=true) (q:0<=n) (r:n<=8192) {A B C D E:List Int} (o:lens5 A B C D E=true) :
  dQ prog 49 [.ptr 0 0,.int .u64 x,.int .i64 n,.int .i64 0] (aO A B C D E) (.ok (.bool true) (aO A B C D E)):=by
 have p : x=4096\/x=65536:=by simpa [lK] using g
 refine rM (c:=sS) (fn:=Tryz.f49) (by kernel_rfl) (by kernel_rfl) (by kernel_rfl) (by kernel_rfl) ?_
 have m:V2 x n (aO A B C D E)=some (.normal,[(0,.ptr 0 0),(1,.int .u64 x),(2,.int .i64 n),(3,.int .i64 0)],aO A B C D E):=by
  unfold V2;cases f:decide (0<n)
  ·rfl
  have f:=of_decide_eq_true f;have h:wrap .u64 (18446744073709551615 - x)=(18446744073709551615 - x) % 18446744073709551616:=rfl;have j:wrap .u64 (wrap .i64 (n - 1))=wrap .i64 (n - 1) % 18446744073709551616:=rfl;rw [h,j,wrap_i64 (by omega) (by omega),decide_eq_false (by omega)];rfl
 refine tF (cx:=tS) rfl rfl KF 1 [0,1,2,3] (by kernel_rfl) ((qM _ _).symm.trans ((a7O x n _).trans m)) ?_
 have l:aJ 1 sS = .seq (.seq (c1 (c1 (aJ 1 sS))) (.block 0 (.loop (cin (cin (c2 (c1 (aJ 1 sS)))))))) (aJ 2 sS):=by kernel_rfl
 rw [l];obtain ⟨s,g1,g2⟩:=ZH0.1 ((qM _ _).symm.trans (a4D x n (aO A B C D E)));refine cL (cL (dA (cx:=tS) rfl rfl KF g1 ?_));obtain ⟨ex,t,H⟩:=s;simp only [Prod.mk.injEq] at g2;obtain ⟨rfl,g2,rfl⟩:=g2;refine mA (aI.less (s:=xR x n 0) (g2 ▸ dK.bC _ _) ?_);refine xX (cx:=tS) (P:=prog) (n:=62) rfl rfl KF (aOL x n A B C D E) (fun k=>n.toNat - k.1) [] [0,1,2,3,9] ?_ ⟨0,Nat.zero_le _⟩;rintro ⟨k,hk⟩;refine Tree.all_run_eq (aV0 x n k A B C D E) ?_
 refine ⟨fun e=>?_,fun d=>?_⟩
 ·have e:=of_decide_eq_true e
  have b:(UE x n k (aO A B C D E)).all (rS (aOL x n A B C D E) (fun k=>n.toNat - k.1) [0,1,2,3,9] (vV 0 (xE (aI prog 62 (aJ 2 sS) (sC prog Tryz.f49 (.ok (.bool true) (aO A B C D E)))) (sC prog Tryz.f49 (.ok (.bool true) (aO A B C D E))))) ⟨k,hk⟩):=by
   refine ⟨⟨k+1,by omega⟩,by show n.toNat - (k+1)<n.toNat - k; omega,?_,rfl⟩;rw [wrap_i64 (by omega) (by omega)];exact dK.refl _
  have a:=cN (y:=.fail) o (zH (x:=.leaf (.ret,xR x n k,aO A B C D E)) (decide_eq_false (a3O g (i:=k) (by omega))) b);exact ⟨fun _=>⟨fun _=>b,fun _=>a⟩,fun _=>a⟩
 ·have d:=of_decide_eq_false d
  intro t u;show aI _ _ _ _ _ _;refine aI.less (s:=[]) (fun _=>.inr rfl) ?_;obtain ⟨s,g1,g2⟩:=bD (acN (aO A B C D E));refine dA (cx:=tS) rfl rfl KF g1 ?_;exact xU g2
def VX:RSpec:=fun args H=>match args with
 | [.ptr 0 0,.int .u64 x,.int .i64 n,.int .i64 r]=>mX (fun _ _ _ _ _=>.aF (lK x&&(decide (0<=n)&&(decide (n<=8192)&&r==0))) (.leaf (.bool true))) H
 | _=>.fail
theorem aYG:nF prog 49 VX:=by
 intro args H out h;unfold VX at h;split at h;rotate_left
 ·cases h
 rename_i x n r;obtain ⟨a,b,c,d,e,rfl,hl,h⟩:=nZ h;obtain ⟨f,h⟩:=aM h;cases h;simp only [ZA2,decide_eq_true_eq,beq_iff_eq] at f;obtain ⟨g,h2,h3,rfl⟩:=f;exact agH g h2 h3 hl
noncomputable def rX:Cx:={ P:=prog,n:=Tryz.f25.ntmps,tab:=[],mtab:=[(50,M5)],refs:=[],keeps:=[0,1,2,6,7,13,17],rtab:=[(49,VX)] }
noncomputable def aIJ:Cx:={ rX with fuel:=1 }
theorem EX:aW rX:=⟨.nil _,.cons aGV (.nil _),.cons aYG (.nil _),fun p h=>by cases h⟩
noncomputable abbrev uY:Code:=cA Tryz.f25
def rsS (x:Int) (l:List Int) (n:Nat) (a b c d e:List Int):List O:=aO (dX 1 x l n a) (dX 2 x l n b) (dX 16 x l n c) (dX 17 x l n d) (dX 32 x l n e)
def EJ (x:Int) (l sp:List Int) (fl:Fl) (i:Int):T:=[(0,.ptr 0 0),(1,.int .u64 x),(2,.sl (.int .u8) l sp fl),(7,.int .i64 i)]
def aIQ (x:Int) (l sp:List Int) (fl:Fl) (i:Nat) (a b c d e:List Int):Tree St:=
 .br (decide ((i:Int)<l.length)) (.br (inside i l.length) (.br (lens5 a b c d e) (.br (usable (a8 x i)) (.leaf (.normal,EJ x l sp fl (wrap .i64 ((i:Int)+1)),
   aO (cP 1 (a8 x i) (l.getD i 0) a) (cP 2 (a8 x i) (l.getD i 0) b) (cP 16 (a8 x i) (l.getD i 0) c) (cP 17 (a8 x i) (l.getD i 0) d) (cP 32 (a8 x i) (l.getD i 0) e))) .fail) .fail) .fail)
  (.leaf (.exit 0,EJ x l sp fl i,aO a b c d e))
theorem aUP (x:Int) (l sp:List Int) (fl:Fl) (i:Nat) (a b c d e:List Int) :
  ((aK rX (cin (cin (c2 (c1 (aJ 1 uY))))) (EJ x l sp fl i) (aO a b c d e)).bind (rD 7 [] [0,1,2,7])).run=(aIQ x l sp fl i a b c d e).run:=
 (show _=(aIQ x l sp fl i a b c d e).out by kernel_rfl).trans (Tree.out_run _)
theorem a9V (x:Int) (l sp:List Int) (fl:Fl) (a b c d e:List Int):((aK rX (eQ 1 uY) (dZ 0 [.ptr 0 0,.int .u64 x,.sl (.int .u8) l sp fl]) (aO a b c d e)).bind (nR [0,1,2])).run =
  cond (lens5 a b c d e) (cond (lK x&&(decide ((0:Int)<=l.length)&&(decide ((l.length:Int)<=8192)&&true))) (some (.normal,[(0,.ptr 0 0),(1,.int .u64 x),(2,.sl (.int .u8) l sp fl)],aO a b c d e)) none) none:=by kernel_rfl
theorem a32 (x:Int) (l sp:List Int) (fl:Fl) (H:List O):((aK rX (c1 (c1 (aJ 1 uY))) [(0,.ptr 0 0),(1,.int .u64 x),(2,.sl (.int .u8) l sp fl)] H).bind (nR [0,1,2,7])).run=some (.normal,EJ x l sp fl 0,H):=by kernel_rfl
theorem acM (H:List O):((aK rX (aJ 2 uY) [] H).bind (iY prog Tryz.f25.results.toList)).run=some (.ok (.int .i64 0) H):=by kernel_rfl
theorem ae0 (x:Int) (a b c d e:List Int):(dF aIJ Tryz.f25 [.ptr 0 0,.int .u64 x,.val (.slice none 0 0)] (aO a b c d e)).fin=cond (lens5 a b c d e) (cond (lK x&&true) (some (.ok (.int .i64 0) (aO a b c d e))) none) none:=by kernel_rfl
def ajZ (x:Int) (l sp:List Int) (fl:Fl) (a b c d e:List Int) (i:{ i:Nat // i<=l.length }):T × List O:=(EJ x l sp fl i.1,rsS x l i.1 a b c d e)
set_option maxRecDepth 8000 in
theorem ajB {x:Int} {l:List Int} (sp:List Int) (fl:Fl) {a b c d e:List Int} (p:lK x=true) (r:l.length<=8192) (j:l.all jT=true) (o:lens5 a b c d e=true) :
  dQ prog 25 [.ptr 0 0,.int .u64 x,.sl (.int .u8) l sp fl] (aO a b c d e) (.ok (.int .i64 0) (rsS x l l.length a b c d e)):=by
 refine rM (c:=uY) (fn:=Tryz.f25) (by kernel_rfl) (by kernel_rfl) (by kernel_rfl) (by kernel_rfl) ?_
 have hb:(lK x&&(decide ((0:Int)<=l.length)&&(decide ((l.length:Int)<=8192)&&true)))=true:=by
  rw [p,decide_eq_true (by omega),decide_eq_true (by omega)];rfl
 refine tF (cx:=rX) rfl rfl EX 1 [0,1,2] (by kernel_rfl) (by rw [<- qM,a9V,o,hb]; rfl) ?_
 have q:aJ 1 uY = .seq (.seq (c1 (c1 (aJ 1 uY))) (.block 0 (.loop (cin (cin (c2 (c1 (aJ 1 uY)))))))) (aJ 2 uY):=by kernel_rfl
 rw [q];obtain ⟨s,g1,g2⟩:=ZH0.1 ((qM _ _).symm.trans (a32 x l sp fl (aO a b c d e)));refine cL (cL (dA (cx:=rX) rfl rfl EX g1 ?_));obtain ⟨ex,t,H⟩:=s;simp only [Prod.mk.injEq] at g2;obtain ⟨rfl,g2,rfl⟩:=g2;refine mA (aI.less (s:=EJ x l sp fl 0) (g2 ▸ dK.bC _ _) ?_);refine xX (cx:=rX) (P:=prog) (n:=30) rfl rfl EX (ajZ x l sp fl a b c d e) (fun i=>l.length - i.1) [] [0,1,2,7] ?_ ⟨0,Nat.zero_le _⟩;rintro ⟨i,hi⟩
 have m := A6 x l j o i;refine Tree.all_run_eq (aUP x l sp fl i _ _ _ _ _) ?_;refine ⟨fun f=>?_,fun g=>?_⟩
 ·have f:i<l.length:=Int.ofNat_lt.1 (of_decide_eq_true f)
  refine cN (jI (Int.natCast_nonneg i) (Int.ofNat_lt.2 f)) (cN m (cN (PZ p (by omega)) ⟨⟨i+1,f⟩,by show l.length - (i+1)<l.length - i; omega,?_,rfl⟩));rw [wrap_i64 (by omega) (by omega)];exact dK.refl _
 ·have g:¬ i<l.length:=fun h=>of_decide_eq_false g (Int.ofNat_lt.2 h)
  have k : i=l.length:=by omega
  subst k;intro t _;show aI _ _ _ _ _ _;refine aI.less (s:=[]) (fun _=>.inr rfl) ?_;obtain ⟨s,g1,g2⟩:=bD (acM (rsS x l l.length a b c d e));refine dA (cx:=rX) rfl rfl EX g1 ?_;exact xU g2
def LM:V->Bool
 | .rng .i64 0 5=>true
 | .int .i64 0=>true
 | _=>false
def M4 {α:Type} (f:List Int->List Int->List Int->List Int->List Int->Tree α):List O->Tree α
 | .cells [.ref 1 3 0 5,v] t :: H=>.aF (LM v) (mX f (.cells [.ref 1 3 0 5,.rng .i64 0 5] t :: H))
 | _=>.fail
theorem aE5 {f:List Int->List Int->List Int->List Int->List Int->Tree Res} {H:List O} {out:Res} (h:(M4 f H).run=some out) :
  ∃ v a b c d e,H=w7 v a b c d e/\LM v=true/\lens5 a b c d e=true/\(f a b c d e).run=some out:=by
 unfold M4 at h;split at h;rotate_left
 ·cases h
 rename_i v t H;obtain ⟨g,h⟩:=aM h;obtain ⟨a,b,c,d,e,g1,g2,g3⟩:=nZ h;refine ⟨v,a,b,c,d,e,?_,g,g2,g3⟩;unfold aO w7 at g1;simp only [List.cons.injEq,O.cells.injEq] at g1;obtain ⟨⟨_,rfl⟩,rfl⟩:=g1;rfl
theorem aDH {f:Nat} {args:List V} {v:V} {A B C D E:List Int} {o:V} {H' : List O} (a:LM v=true) (h:dQ prog f args (aO A B C D E) (.ok o H')):dQ prog f args (w7 v A B C D E) (.ok o H'):=by
 unfold LM at a;split at a
 ·exact h
 ·exact a2K (A:=[]) (pre:=[.ref 1 3 0 5]) (post:=[]) (lo:=0) (hi:=5) (by decide) (by decide) h
 ·cases a
def W7:MSpec:=fun args H=>match args with
 | [.ptr 0 0,.int .u64 x,.sl (.int .u8) l _ _]=>M4 (fun a b c d e=>.aF (lK x&&(decide (l.length<=8192)&&l.all jT)) (.leaf (.ok (.int .i64 0) (aO (dX 1 x l l.length a) (dX 2 x l l.length b) (dX 16 x l l.length c) (dX 17 x l l.length d) (dX 32 x l l.length e))))) H
 | [.ptr 0 0,.int .u64 x,.val (.slice none 0 0)]=>M4 (fun a b c d e=>.aF (lK x) (.leaf (.ok (.int .i64 0) (aO a b c d e)))) H
 | _=>.fail
theorem a0G:bP prog 25 W7:=by
 intro args H out h;unfold W7 at h;split at h
 ·rename_i x l sp fl
  obtain ⟨v,a,b,c,d,e,rfl,hv,hl,h⟩:=aE5 h;obtain ⟨f,h⟩:=aM h;cases h;obtain ⟨i,g⟩:=ZA0.1 f;obtain ⟨g,h8⟩:=ZA0.1 g;exact aDH hv (ajB sp fl i (of_decide_eq_true g) h8 hl)
 ·rename_i x
  obtain ⟨v,a,b,c,d,e,rfl,hv,hl,h⟩:=aE5 h;obtain ⟨f,h⟩:=aM h;cases h;refine aDH hv (fA (cx:=aIJ) (fn:=Tryz.f25) EX (by kernel_rfl) (by kernel_rfl) _ _ _ ?_);refine nC (by kernel_rfl) ?_;rw [<- Tree.bJ,ae0,hl,cond_true,f];rfl
 ·cases h
end Go.Ra

namespace Go.Ra
open Go Go.Ab Go.Proofs
noncomputable def aOU:Tabs:={ mtab:=[(46,UX),(24,WG),(25,W7)] }
theorem a4U:aOU.Ok prog:=⟨.nil _,.cons aYV (.cons a0V (.cons a0G fun p h=>by cases h)),.nil _,fun p h=>by cases h⟩
noncomputable def aHM:List Fi:=[⟨45,Tryz.f45,[0,1,4,5,6],[],0,[]⟩]
theorem aV8:fY prog aHM:=⟨⟨by kernel_rfl,by kernel_rfl⟩,trivial⟩
noncomputable def aHQ:List Fi:=[⟨21,Tryz.f21,[0],[],0,[]⟩,⟨30,Tryz.f30,[0,2],[],0,[]⟩,⟨22,Tryz.f22,[0,1,2,3,8,9,10,11,12,13,14,15,22,37,52,54,78,87],[],4,[]⟩,⟨48,Tryz.f48,[0,1,4,5,30,41,53],[],8,[]⟩,⟨23,Tryz.f23,[0,1,2,3,8,9,10,11,12,13,14,15,16,33,44,53,61,76,84,88,95],[103,105,106],4,[103]⟩]
theorem aUA:fY prog aHQ:=⟨⟨by kernel_rfl,by kernel_rfl⟩,⟨by kernel_rfl,by kernel_rfl⟩,⟨by kernel_rfl,by kernel_rfl⟩,⟨by kernel_rfl,by kernel_rfl⟩,⟨by kernel_rfl,by kernel_rfl⟩,trivial⟩
noncomputable def OI (d:Nat):Tabs:=deep prog aOU aHM aHQ d
theorem a4Y (d:Nat):(OI d).Ok prog:=qN a4U aV8 aUA d
noncomputable def IA:Cx:={ P:=prog,n:=Tryz.f10.ntmps,tab:=(OI 4).tab,mtab:=(OI 4).mtab,rtab:=(OI 4).rtab,refs:=[],keeps:=[0,1,4,5,6,7] }
theorem aHK:aW IA:=a4Y 4
noncomputable abbrev Bwd:Code:=cA Tryz.f10
def mY (r:Int) (l:List Int):O:=.obj (.page 1 .u8 l) [.int .i64 r]
def aLV (A B C D E:List Int):List O:=[.obj (.map [1,2,16,17,32]) [.ptr 3 0,.ptr 4 0,.ptr 11 0,.ptr 12 0,.ptr 19 0],.cells [.bool true,.mp 0] 72,.cells [.ref 22 3 0 5,.int .i64 0] 58,
 mY 5 A,mY 5 B,fG A,.cells (jU 1 5 5) (95+4294967296),.dead,fG B,.cells (jU 2 5 8) (95+4294967296),.dead,mY 6 C,mY 6 D,fG C,.cells (jU 16 6 13) (95+4294967296),.dead,fG D,.cells (jU 17 6 16) (95+4294967296),.dead,mY 4 E,fG E,
 .cells (jU 32 4 20) (95+4294967296),.cells (jU 1 5 5++(jU 2 5 8++(jU 16 6 13++(jU 17 6 16++jU 32 4 20)))) 0]
theorem a7M (c d:V):(aK IA (eQ 7 Bwd) (dZ 0 [c,d]) []).run.map (fun s=>(s.1,bC [0,1,6,7] s.2.1,s.2.2)) =
  some (.normal,[(0,c),(1,d),(6,.ptr 1 0),(7,.ptr 2 0)],aLV eK eK eK eK eK):=by kernel_rfl
def sB (A B C D E:List Int):List O:=[.cells [.bool true,.mp 1] 72,.obj (.map [1,2,16,17,32]) [.ptr 2 0,.ptr 3 0,.ptr 4 0,.ptr 5 0,.ptr 6 0],mY 5 A,mY 5 B,mY 6 C,mY 6 D,mY 4 E,
 .cells [.ref 8 3 0 5,X2] 58,.cells (jU 1 5 9++(jU 2 5 10++(jU 16 6 11++(jU 17 6 12++jU 32 4 13)))) 0,fG A,fG B,fG C,fG D,fG E]
def aLF:List Nat:=[1,0,3,4,11,12,19,2,22,5,8,13,16,20]
def jX (k:Int) (l m P:List Int):List Int:=dX k 65536 m m.length (dX k 4096 l l.length P)
def wdL (l m A B C D E:List Int):List O:=sB (jX 1 l m A) (jX 2 l m B) (jX 16 l m C) (jX 17 l m D) (jX 32 l m E)
noncomputable def D3 (c d:V) (A B C D E:List Int):Option Res:=(((aK IA (aJ 7 Bwd) [(0,c),(1,d),(6,.ptr 1 0),(7,.ptr 2 0)] (aLV A B C D E)).bind (iY prog Tryz.f10.results.toList)).bind (wQ 0 aLF)).fin
def lX (l:List Int):Bool:=decide (l.length<=8192)&&l.all jT
def O5 (L n:Bool) (r:Option Res):Option Res:=cond (true&&L) (cond (true&&n) (cond (true&&(true&&(true&&L))) (cond (true&&n) r none) none) none) none
def PT (L:Bool) (r:Option Res):Option Res:=cond (true&&L) (cond (true&&(true&&(true&&L))) r none) none
def YH (l A B C D E:List Int):Bool:=lens5 (dX 1 4096 l l.length A) (dX 2 4096 l l.length B) (dX 16 4096 l l.length C) (dX 17 4096 l l.length D) (dX 32 4096 l l.length E)
def H9 (l m A B C D E:List Int):Option Res:=some (.ok (.tup [.ptr 0 0,.ptr 7 0]) (wdL l m A B C D E))
theorem ajO (l sp m b:List Int) (fl a:Fl) (A B C D E:List Int):D3 (.sl (.int .u8) l sp fl) (.sl (.int .u8) m b a) A B C D E =
  O5 (lens5 A B C D E) (lX l) (O5 (YH l A B C D E) (lX m) (H9 l m A B C D E)):=by kernel_rfl
theorem aj4 (m b:List Int) (a:Fl) (A B C D E:List Int):D3 (.val (.slice none 0 0)) (.sl (.int .u8) m b a) A B C D E =
  PT (lens5 A B C D E) (O5 (lens5 A B C D E) (lX m) (H9 [] m A B C D E)):=by kernel_rfl
theorem aiJ (l sp:List Int) (fl:Fl) (A B C D E:List Int):D3 (.sl (.int .u8) l sp fl) (.val (.slice none 0 0)) A B C D E =
  O5 (lens5 A B C D E) (lX l) (PT (YH l A B C D E) (H9 l [] A B C D E)):=by kernel_rfl
theorem ahA (A B C D E:List Int):D3 (.val (.slice none 0 0)) (.val (.slice none 0 0)) A B C D E =
  PT (lens5 A B C D E) (PT (lens5 A B C D E) (H9 [] [] A B C D E)):=by kernel_rfl
def CX:V->Option (List Int)
 | .sl (.int .u8) l _ _=>some l
 | .val (.slice none 0 0)=>some []
 | _=>none
theorem aDP {v:V} {l:List Int} (h:CX v=some l):(∃ sp fl,v = .sl (.int .u8) l sp fl)\/(v = .val (.slice none 0 0)/\l=[]):=by
 unfold CX at h;split at h
 ·cases h; exact .inl ⟨_,_,rfl⟩
 ·cases h; exact .inr ⟨rfl,rfl⟩
 ·cases h
theorem aZG:eK.length=4096:=List.length_replicate
theorem aCN:lens5 eK eK eK eK eK=true:=by
 have h:qG eK=true:=by
  unfold qG;rw [aZG,ZA0];refine ⟨rfl,?_⟩;unfold eK;rw [List.all_replicate];rfl
 unfold lens5;rw [h];rfl
theorem adC {c d:V} {l m:List Int} (h:CX c=some l) (i:CX d=some m) (b:lX l=true) (e:lX m=true) {A B C D E:List Int} (a:lens5 A B C D E=true) :
  D3 c d A B C D E=H9 l m A B C D E:=by
 have f:YH l A B C D E=true:=A6 _ _ (ZA0.1 b).2 a _
 rcases aDP h with ⟨sp,fl,rfl⟩ | ⟨rfl,rfl⟩ <;> rcases aDP i with ⟨g,fm,rfl⟩ | ⟨rfl,rfl⟩
 ·exact (ajO l sp m g fl fm A B C D E).trans (by rw [a,f,b,e]; rfl)
 ·exact (aiJ l sp fl A B C D E).trans (by rw [a,f,b]; rfl)
 ·exact (aj4 m g fm A B C D E).trans (by rw [a,e]; rfl)
 ·rw [ahA,a]; rfl
def VU:MSpec:=fun args H=>match args,H with
 | [c,d],[]=>match CX c,CX d with
  | some l,some m=>.aF (lX l&&lX m) (.leaf (.ok (.tup [.ptr 0 0,.ptr 7 0]) (wdL l m eK eK eK eK eK)))
  | _,_=>.fail
 | _,_=>.fail
theorem aX4:bP prog 10 VU:=by
 intro args H out h;unfold VU at h;split at h;rotate_left
 ·cases h
 rename_i c d;split at h;rotate_left
 ·cases h
 rename_i l m f g;obtain ⟨a,h⟩:=aM h;cases h;obtain ⟨b,h2⟩:=ZA0.1 a;have e:=adC f g b h2 aCN;unfold D3 at e;rw [Tree.bJ] at e;obtain ⟨r0,e1,e2⟩:=bD e;refine I8 (H:=[]) (r:=r0) (κ:=aLF) ?_ e2;obtain ⟨s,g1,g2⟩:=bD e1;refine rM (c:=Bwd) (fn:=Tryz.f10) (by kernel_rfl) (by kernel_rfl) (by kernel_rfl) (by kernel_rfl) ?_;refine tF (cx:=IA) rfl rfl aHK 7 [0,1,6,7] (by kernel_rfl) (a7M c d) ?_;exact dA (cx:=IA) rfl rfl aHK g1 (xU g2)
theorem a2D {l m:List Int} (a:lX l=true) (b:lX m=true) {A B C D E:List Int} (h:lens5 A B C D E=true):lens5 (jX 1 l m A) (jX 2 l m B) (jX 16 l m C) (jX 17 l m D) (jX 32 l m E)=true:=A6 _ _ (ZA0.1 b).2 (A6 _ _ (ZA0.1 a).2 h _) _
end Go.Ra

namespace Go.Ra
open Go Go.Ab Go.Proofs
noncomputable def myB:Tabs:={ mtab:=[(40,U6),(41,SP),(42,U5)] }
theorem aaM:myB.Ok prog:=⟨.nil _,.cons aWP (.cons aVF (.cons aZL fun p h=>by cases h)),.nil _,fun p h=>by cases h⟩
noncomputable def aJZ:List Fi:=[]
theorem aXP:fY prog aJZ:=trivial
noncomputable def aL4:List Fi:=[⟨19,Tryz.f19,[0,1,4,5,6,7,8,16,23,40,44,62],[],6,[]⟩]
theorem aZH:fY prog aL4:=⟨⟨by kernel_rfl,by kernel_rfl⟩,trivial⟩
noncomputable def myT (d:Nat):Tabs:=deep prog myB aJZ aL4 d
theorem aLN (d:Nat):(myT d).Ok prog:=qN aaM aXP aZH d
def aiU (A B C D E:List Int):List O:=[.cells [.bool true,.mp 2] 72,.obj (.map [1,2,16,17,32]) [.ptr 3 0,.ptr 4 0,.ptr 5 0,.ptr 6 0,.ptr 7 0],mY 5 A,mY 5 B,mY 6 C,mY 6 D,mY 4 E,
 .cells [.ref 9 3 0 5,X2] 58,.cells (jU 1 5 10++(jU 2 5 11++(jU 16 6 12++(jU 17 6 13++jU 32 4 14)))) 0,fG A,fG B,fG C,fG D,fG E]
def N8 (s:CpuT):O:=.cells (gW s).l 26
def sT (s t:CpuT) (A B C D E:List Int):List O:=N8 s :: (aiU A B C D E++[N8 t])
abbrev ZJ:EC:=.prod [.str,.int .i64,.int .i64,.int .i64,.int .i64,.int .i64]
abbrev OG (l:List ZJ.ty) (k:Int):ZJ.ty:=l.getD k.toNat ZJ.dflt
def OB (l:List Int):List UInt8:=(List.take 4096 (List.drop 0 l)).map fun n=>UInt8.ofNat n.toNat
def pZ (L:Bool) (A:List Int) (r:Option V):Option V:=
 cond (true&&L) (cond (true&&L) (cond (true&&(true&&Nat.ble 4096 A.length)) (cond (true&&(true&&Nat.ble 4096 A.length)) (cond (!(wL (OB A) (OB A))) (some (.bool false)) r) none) none) none) none
theorem aTE {fn:Func} {s:St} {v:V} (h:(answer prog fn.results.toList s).run=some v):(s.1 = .ret\/s.1 = .normal)/\hD prog fn.results.toList s.2.2 s.2.1=some v:=by
 obtain ⟨e,t,H⟩:=s;unfold answer at h;split at h
 ·rename_i a
  cases a;split at h
  ·rename_i v b
   cases h;exact ⟨.inl rfl,b⟩
  ·cases h
 ·rename_i a
  cases a;split at h
  ·rename_i v b
   cases h;exact ⟨.inr rfl,b⟩
  ·cases h
 ·cases h
def FOk (f:iZ):Prop:=∀ nm s a b c d m e A B C D E,Fine s->lens5 A B C D E=true->Go.Amd.eG m=true ->
 Fine (f nm s a b c d m e A B C D E).s/\lens5 (f nm s a b c d m e A B C D E).A (f nm s a b c d m e A B C D E).B (f nm s a b c d m e A B C D E).C (f nm s a b c d m e A B C D E).D (f nm s a b c d m e A B C D E).E=true
structure RnSt where
 k:Nat
 s:CpuT
 A:List Int
 B:List Int
 C:List Int
 D:List Int
 E:List Int
 hk:k<=80
 hs:Fine s
 hl:lens5 A B C D E=true
theorem E3 {A:List Int} (a:A.length=4096) (r:Option V):pZ true A r=r:=by
 unfold pZ;have e:wL (OB A) (OB A)=true:=beq_self_eq_true _;rw [e,a];rfl
theorem ajR {A B C D E:List Int} (a:lens5 A B C D E=true):cond (true&&lens5 A B C D E) (pZ (lens5 A B C D E) A (pZ (lens5 A B C D E) B (pZ (lens5 A B C D E) C (pZ (lens5 A B C D E) D (pZ (lens5 A B C D E) E (some (.bool true))))))) none=some (V.bool true):=by
 obtain ⟨b,l2,l3,l4,l5⟩:=A5 a;rw [a,E3 b,E3 l2,E3 l3,E3 l4,E3 l5];rfl
end Go.Ra

namespace Go.Ra
open Go Go.Ab Go.Proofs
theorem a6C:FOk ON:=fun nm s a b c d m i A B C D E h f g=>by
 obtain ⟨e,h2,_⟩:=a79 nm h a b c d m i f g;exact ⟨e,h2⟩
end Go.Ra

namespace Go.Ra
open Go Go.Ab Go.Proofs
noncomputable abbrev l6:Code:=cA Tryz.f49
def xH (x n:Int) (k:Nat):T:=[(0,.ptr 0 0),(1,.int .u64 x),(2,.int .i64 n),(3,.int .i64 1),(8,.bool false),(9,.int .i64 (k:Int))]
def ZB (x n:Int) (k:Nat) (H:List O):Tree St:=.leaf (.ret,xH x n k,H)
def ZG (x n:Int) (k:Nat) (H:List O):Tree St:=.leaf (.normal,[(0,.ptr 0 0),(1,.int .u64 x),(2,.int .i64 n),(3,.int .i64 1),(8,.bool false),(9,.int .i64 (wrap .i64 ((k:Int)+1)))],H)
def cnC (L:Bool) (x n:Int) (k:Nat) (H:List O):Tree St:=
 .br L (.br (decide (cD (aQ (a8 x k))<0)) (ZB x n k H) (.br (inside (cD (aQ (a8 x k))) 5) (.br (n9 .i64 CN (0+(cD (aQ (a8 x k))).toNat*3+1)) (.br (OW (K2 (aQ (a8 x k))) 1==0) (ZB x n k H) (ZG x n k H)) .fail) .fail)) .fail
def aHI (a b c d e:List Int) (x n:Int) (k:Nat):Tree St:=
 .br (decide ((k:Int)<n)) (.br (decide (0<(k:Int))) (.br (Int.tmod (a8 x k) 4096 != 0) (ZG x n k (aO a b c d e)) (cnC (lens5 a b c d e) x n k (aO a b c d e))) (cnC (lens5 a b c d e) x n k (aO a b c d e))) (.leaf (.exit 0,xH x n k,aO a b c d e))
theorem aUI (a b c d e:List Int) (x n:Int) (k:Nat) :
  ((aK nG (cin (cin (c2 (c1 (aJ 1 l6))))) (xH x n k) (aO a b c d e)).bind (rD (aO a b c d e).length [] [0,1,2,3,8,9])).run=(aHI a b c d e x n k).run:=
 (show _=(aHI a b c d e x n k).out by kernel_rfl).trans (Tree.out_run _)
def aKK (H:List O) (x n:Int):Tree St:=
 (.br (decide (0<n)) (.br (decide (wrap u64 (18446744073709551615 - x)<wrap u64 (wrap i64 (n - 1)))) (.leaf (.ret,[(0,(.ptr 0 0)),(1,(.int .u64 x)),(2,(.int .i64 n)),(3,(.int .i64 1)),(8,(.bool false)),(20,(.bool true))],H)) (.leaf (.normal,[(0,(.ptr 0 0)),(1,(.int .u64 x)),(2,(.int .i64 n)),(3,(.int .i64 1)),(8,(.bool false)),(20,(.bool false))],H))) (.leaf (.normal,[(0,(.ptr 0 0)),(1,(.int .u64 x)),(2,(.int .i64 n)),(3,(.int .i64 1)),(8,(.bool false)),(20,(.bool false))],H)))
theorem aY2 (H:List O) (x n:Int):(aK nG (eQ 1 l6) (dZ 0 [.ptr 0 0,.int .u64 x,.int .i64 n,.int .i64 1]) H).run=(aKK H x n).run:=
 (show (aK nG (eQ 1 l6) (dZ 0 [.ptr 0 0,.int .u64 x,.int .i64 n,.int .i64 1]) H).run=(aKK H x n).out by kernel_rfl).trans (Tree.out_run _)
def aH7 (H:List O) (x n:Int):Tree St:=
 (.leaf (.normal,[(0,(.ptr 0 0)),(1,(.int .u64 x)),(2,(.int .i64 n)),(3,(.int .i64 1)),(8,(.bool false)),(9,(.int .i64 0))],H))
theorem aVZ (H:List O) (x n:Int):((aK nG (c1 (c1 (aJ 1 l6))) [(0,.ptr 0 0),(1,.int .u64 x),(2,.int .i64 n),(3,.int .i64 1),(8,.bool false)] H).bind (nR [0,1,2,3,8,9])).run=(aH7 H x n).run:=
 (show ((aK nG (c1 (c1 (aJ 1 l6))) [(0,.ptr 0 0),(1,.int .u64 x),(2,.int .i64 n),(3,.int .i64 1),(8,.bool false)] H).bind (nR [0,1,2,3,8,9])).run=(aH7 H x n).out by kernel_rfl).trans (Tree.out_run _)
def aNQ (H:List O):Tree St:=
 (.leaf (.ret,[(8,(.bool true))],H))
theorem a43 (H:List O):(aK nG (aJ 2 l6) [] H).run=(aNQ H).run:=
 (show (aK nG (aJ 2 l6) [] H).run=(aNQ H).out by kernel_rfl).trans (Tree.out_run _)
structure CnSt (x:Int) (m:Nat) (v:Bool) where
 k:Nat
 hk:k<=m
 hg:canGo true x 1 (m - k) k=some (.bool v)
theorem aXI {p:Int} {K:Option V} {v:Bool} (h:AF true 1 p K=some (.bool v)) :
  (decide (cD p<0)=true->v=false)/\(decide (cD p<0)=false->inside (cD p) 5=true/\n9 .i64 CN (0+(cD p).toNat*3+1)=true/\((OW (K2 p) 1==0)=true->v=false)/\((OW (K2 p) 1==0)=false->K=some (.bool v))):=by
 unfold AF at h;rw [cond_true,show decide ((0:Int)<1)=true from rfl,cond_true] at h;cases c:decide (cD p<0)
 ·rw [c,cond_false] at h
  refine ⟨(fun g=>by cases g),fun _=>?_⟩;cases a:inside (cD p) 5
  ·rw [a] at h; cases h
  cases d:n9 .i64 CN (0+(cD p).toNat*3+1)
  ·rw [a,d] at h; cases h
  rw [a,d,cond_true,cond_true] at h;refine ⟨rfl,rfl,fun b=>?_,fun b=>?_⟩
  ·rw [b] at h
   cases h;rfl
  ·rw [b] at h
   exact h
 ·rw [c] at h
  cases h;exact ⟨fun _=>rfl,fun g=>by cases g⟩
def X4:RSpec:=fun args H=>match args with
 | [.ptr 0 0,.int .u64 x,.int .i64 n,.int .i64 r]=>mX (fun _ _ _ _ _=>.aF (rng64 x&&(decide (1<=n)&&(decide (n<=16)&&r==1))) (.leaf (.bool (cM x n 1)))) H
 | _=>.fail
abbrev AY (v:Bool) (H:List O):AEx->T->List O->Prop:=sC prog Tryz.f49 (.ok (.bool v) H)
theorem VT {H:List O} {t:T} {v:V} (h:Ab.get 8 t=v):tL prog Tryz.f49.results.toList H t=some v:=by
 have e:Tryz.f49.results.toList=[.tmp 8]:=by kernel_rfl
 subst h;rw [e];rfl
theorem a9J {a b c d e:List Int} (w:lens5 a b c d e=true) {x:Int} {m:Nat} (z:m<=16) {v:Bool} (j:canGo true x 1 m 0=some (.bool v)) :
  aI prog Tryz.f49.ntmps (aJ 1 l6) (AY v (aO a b c d e)) [(0,.ptr 0 0),(1,.int .u64 x),(2,.int .i64 (m:Int)),(3,.int .i64 1),(8,.bool false)] (aO a b c d e):=by
 have u:aJ 1 l6 = .seq (.seq (c1 (c1 (aJ 1 l6))) (.block 0 (.loop (cin (cin (c2 (c1 (aJ 1 l6)))))))) (aJ 2 l6):=by kernel_rfl
 rw [u];obtain ⟨r,g1,g2⟩:=ZH0.1 ((qM _ _).symm.trans ((aVZ (aO a b c d e) x (m:Int)).trans rfl));refine cL (cL (dA (cx:=nG) rfl rfl EY g1 ?_));obtain ⟨ex,t,H⟩:=r;simp only [Prod.mk.injEq] at g2;obtain ⟨rfl,g2,rfl⟩:=g2;refine mA (aI.less (s:=xH x (m:Int) 0) (a1T (ks:=[0,1,2,3,8,9]) g2.symm) ?_);refine xX (cx:=nG) rfl rfl EY (fun i:CnSt x m v=>(xH x (m:Int) i.k,aO a b c d e)) (fun i=>m - i.k) [] [0,1,2,3,8,9] ?_ ⟨0,by omega,j⟩
 rintro ⟨k,hk,j⟩;refine Tree.all_run_eq (aUI a b c d e x (m:Int) k) ?_
 have no:v=false->(ZB x (m:Int) k (aO a b c d e)).all (rS (fun i:CnSt x m v=>(xH x (m:Int) i.k,aO a b c d e)) (fun i=>m - i.k) [0,1,2,3,8,9] (vV 0 (xE (aI prog Tryz.f49.ntmps (aJ 2 l6) (AY v (aO a b c d e))) (AY v (aO a b c d e)))) ⟨k,hk,j⟩):=by
  rintro rfl t q;refine ⟨.inl rfl,rfl,VT ?_⟩
  rcases J9 q 8 with g | g
  ·exact g.symm
  ·cases g
 have p:k<m->canGo true x 1 (m - (k+1)) (k+1)=some (.bool v)->(ZG x (m:Int) k (aO a b c d e)).all (rS (fun i:CnSt x m v=>(xH x (m:Int) i.k,aO a b c d e)) (fun i=>m - i.k) [0,1,2,3,8,9] (vV 0 (xE (aI prog Tryz.f49.ntmps (aJ 2 l6) (AY v (aO a b c d e))) (AY v (aO a b c d e)))) ⟨k,hk,j⟩):=by
  intro f h;refine ⟨⟨k+1,f,h⟩,by show m - (k+1)<m - k; omega,?_,rfl⟩;rw [wrap_i64 (by omega) (by omega)];exact dK.refl _
 have n:k<m->AF true 1 (aQ (a8 x k)) (canGo true x 1 (m - (k+1)) (k+1))=some (.bool v)->(cnC (lens5 a b c d e) x (m:Int) k (aO a b c d e)).all (rS (fun i:CnSt x m v=>(xH x (m:Int) i.k,aO a b c d e)) (fun i=>m - i.k) [0,1,2,3,8,9] (vV 0 (xE (aI prog Tryz.f49.ntmps (aJ 2 l6) (AY v (aO a b c d e))) (AY v (aO a b c d e)))) ⟨k,hk,j⟩):=by
  intro f h;obtain ⟨o,h2⟩:=aXI h;refine cN w ⟨fun g=>no (o g),fun g=>?_⟩;obtain ⟨y,q2,q3,q4⟩:=h2 g;exact cN y (cN q2 ⟨fun g=>no (q3 g),fun g=>p f (q4 g)⟩)
 refine ⟨fun f=>?_,fun f=>?_⟩
 ·have f:k<m:=by
   have:=of_decide_eq_true f;omega
  rw [show m - k=(m - (k+1))+1 by omega] at j;unfold canGo at j;refine ⟨fun l=>⟨fun o=>?_,fun o=>?_⟩,fun l=>?_⟩
  ·have l:Nat.blt 0 k=true:=by
    have:=of_decide_eq_true l;exact Nat.ble_eq_true_of_le (by omega)
   rw [l,cond_true,o,cond_true] at j;exact p f j
  ·have l:Nat.blt 0 k=true:=by
    have:=of_decide_eq_true l;exact Nat.ble_eq_true_of_le (by omega)
   rw [l,cond_true,o,cond_false] at j;exact n f j
  ·have l:k=0:=by
    have:=of_decide_eq_false l;omega
   subst l;exact n f j
 ·have f:k=m:=by
   have:=of_decide_eq_false f;omega
  subst f;rw [Nat.sub_self] at j;cases j;intro t q;show aI _ _ _ _ _ _;refine aI.less (s:=[]) (Fits.tle trivial) ?_;exact dA (cx:=nG) rfl rfl EY (a43 _) ⟨.inl rfl,rfl,VT rfl⟩
theorem a2C:nF prog 49 X4:=by
 intro args H out h;unfold X4 at h;split at h;rotate_left
 ·cases h
 rename_i x n r;obtain ⟨a,b,c,d,e,rfl,hl,h⟩:=nZ h;obtain ⟨j,h⟩:=aM h;cases h;simp only [ZA2,decide_eq_true_eq,beq_iff_eq] at j;obtain ⟨o,n1,n2,rfl⟩:=j;obtain ⟨m,rfl⟩:∃ m:Nat,n=m:=⟨n.toNat,by omega⟩;have g:=aHX (r:=1) (n:=m) hl o (by omega) (by omega) (by omega);unfold uO at g;rw [hl] at g;refine rM (c:=l6) (fn:=Tryz.f49) (by kernel_rfl) (by kernel_rfl) (by kernel_rfl) (by kernel_rfl) ?_;refine yF (cx:=nG) rfl rfl EY 1 (by kernel_rfl) (aY2 _ x (m:Int)) ?_
 have i:wrap .u64 (wrap .i64 ((m:Int) - 1))=(m:Int) - 1:=by
  rw [wrap_i64 (by omega) (by omega)];show ((m:Int) - 1) % 18446744073709551616=_;omega
 refine ⟨fun _=>⟨fun f=>?_,fun f=>?_⟩,fun k=>?_⟩
 ·rw [i] at f
  rw [f,cond_true] at g
  have l:cM x (m:Int) 1=false:=by
   injection g with q
   injection q with q
   exact q.symm
  rw [l];exact ⟨.inl rfl,rfl,VT rfl⟩
 ·rw [i] at f
  rw [f,cond_false] at g;show aI _ _ _ _ _ _;exact aI.less (s:=[(0,.ptr 0 0),(1,.int .u64 x),(2,.int .i64 (m:Int)),(3,.int .i64 1),(8,.bool false)]) (Fits.tle ⟨rfl,rfl,rfl,rfl,rfl,trivial⟩) (a9J hl (by omega) g)
 ·have:=of_decide_eq_false k
  omega
end Go.Ra

namespace Go.Ra
open Go Go.Ab Go.Proofs
def p8 (x i:Int):Int:=wrap .u64 (x+i)
noncomputable def Z4:Cx:={ P:=prog,n:=Tryz.f16.ntmps,tab:=[],mtab:=[(31,HR),(33,getM)],refs:=[],keeps:=[0,1,2,6,7,8,9,15,17,18,19,33,45],fuel:=11 }
theorem a9Q:aW Z4:=bU (.nil _) (.cons T4 (.cons T0 fun p h=>by cases h)) rfl rfl
noncomputable def pfE (a b c d e:List Int) (x:Int):Option Res:=(dF Z4 Tryz.f16 [.ptr 0 0,.int .u64 x,.int .i64 10] (aR a b c d e)).fin
def zX (H:List O) (l:List Int):Option Res:=match l with
 | []=>some (.ok (.tup [.val (.slice none 0 0),.int .i64 21]) H)
 | _=>some (.ok (.tup [.gro 7 (.int .u8) l,.int .i64 0]) (H++[.tok l.length 1]))
def O2 (a b c d e:List Int) (x:Int):Nat->Nat->List Int->Option Res
 | 0,_,l=>zX (aR a b c d e) l
 | m+1,i,l=>cond (decide (p8 x (i:Int)<x)) (zX (aR a b c d e) l) (cond (true&&lens5 a b c d e) (cond (rng64 (p8 x (i:Int))&&true) (cond (!cM (p8 x (i:Int)) 1 1) (zX (aR a b c d e) l)
  (cond (true&&lens5 a b c d e) (cond (rng64 (p8 x (i:Int))&&iS (aQ (p8 x (i:Int)))) (O2 a b c d e x m (i+1) (l++[iO a b c d e (p8 x (i:Int))])) none) none)) none) none)
theorem agR (a b c d e:List Int) (x:Int):pfE a b c d e x=O2 a b c d e x 10 0 []:=by kernel_rfl
noncomputable def rhB:Tabs:={ rtab:=[(48,CS),(49,X4),(133,M3)] }
theorem ac4:rhB.Ok prog:=⟨.nil _,.nil _,.cons JW (.cons a2C (.cons aG5 (.nil _))),fun p h=>by cases h⟩
noncomputable def aLK:List Fi:=[]
theorem aZQ:fY prog aLK:=trivial
noncomputable def aK7:List Fi:=[⟨88,Tryz.f88,[0,1,2,6,7,8,11],[],12,[]⟩]
theorem aY9:fY prog aK7:=⟨⟨by kernel_rfl,by kernel_rfl⟩,trivial⟩
noncomputable def O9 (d:Nat):Tabs:=deep prog rhB aLK aK7 d
theorem adS (d:Nat):(O9 d).Ok prog:=qN ac4 aZQ aY9 d
noncomputable def ZU:Cx:={ P:=prog,n:=Tryz.f43.ntmps,tab:=(O9 1).tab,mtab:=(O9 1).mtab,rtab:=(O9 1).rtab,refs:=[],keeps:=[0,1,2,6,7,8,14,24,28],fuel:=12 }
theorem a9G:aW ZU:=adS 1
noncomputable def rhE (a b c d e:List Int) (x:Int):Option Res:=(dF ZU Tryz.f43 [.ptr 0 0,.int .u64 x,.int .i64 10] (aO a b c d e)).fin
def MR (a b c d e:List Int) (x:Int):Nat->Nat->List Int->Option Res
 | 0,_,l=>some (.ok (.tup [.gro 7 (.int .u8) l,.int .i64 0]) (aO a b c d e++[.tok l.length 1]))
 | m+1,i,l=>cond (true&&(true&&(true&&lens5 a b c d e))) (cond (rng64 (a8 x i)&&iS (aQ (a8 x i))) (MR a b c d e x m (i+1) (l++[iO a b c d e (a8 x i)])) none) none
def L4 (a b c d e:List Int) (x:Int) (k:Nat):Option Res:=cond (Nat.beq k 0) (some (.ok (.tup [.val (.slice none 0 0),.int .i64 21]) (aO a b c d e))) (MR a b c d e x k 0 [])
def OL (a b c d e:List Int) (x:Int):Nat->Nat->Option Res
 | 0,k=>L4 a b c d e x k
 | m+1,k=>cond (true&&(true&&(true&&lens5 a b c d e))) (cond (rng64 x&&true) (cond (cM x ((k+1:Nat):Int) 1) (OL a b c d e x m (k+1)) (L4 a b c d e x k)) none) none
theorem aiK (a b c d e:List Int) (x:Int):rhE a b c d e x=OL a b c d e x 10 0:=by kernel_rfl
end Go.Ra

namespace Go.Ra
open Go Go.Ab Go.Proofs
def dL (x:Int):Nat:=if 4096<=x/\x<12288 then min 10 (12288 - x).toNat else 0
def bL (a b c d e:List Int) (x:Int):List Int:=(List.range (dL x)).map fun (i:Nat)=>iO a b c d e (x+(i:Int))
theorem K7 (x:Int):dL x<=10:=by
 unfold dL;split <;> omega
theorem RL (a b c d e:List Int) (x:Int):(bL a b c d e x).length=dL x:=by
 unfold bL;rw [List.length_map,List.length_range]
theorem aNY (k:Int):iH 1 k=(k==1 || k==2):=by
 unfold iH rC;cases k==1
 ·cases k==2
  ·cases k==16 <;> cases k==17 <;> cases k==32 <;> rfl
  ·rfl
 ·rfl
theorem aDW {x n:Int} (a:rng64 x=true) (d:1<=n) (f:n<=16):cM x n 1=(decide (4096<=x)&&decide (x+n<=12288)):=by
 have b:=KE x n;have c:=pD a;have py:=pD b;have e:jC x n=((x+n % 18446744073709551616) % 18446744073709551616 - 1) % 18446744073709551616:=rfl;unfold cM;rw [aNY,aNY,c,py,e,Bool.eq_iff_iff];simp only [rng64,ZA2,decide_eq_true_eq] at a;simp only [ZA2,ZA3,decide_eq_true_eq,beq_iff_eq];omega
theorem aG9 {x n:Int} (d:rng64 x=true) (a:1<=n) (b:n<=16) (h:¬ (4096<=x/\x+n<=12288)):cM x n 1=false:=by
 rw [aDW d a b];by_cases h3:4096<=x
 ·rw [decide_eq_false (show ¬ x+n<=12288 from fun c=>h ⟨h3,c⟩),Bool.and_false]
 ·rw [decide_eq_false h3]
  rfl
theorem aIA {x n:Int} (e:rng64 x=true) (a:1<=n) (b:n<=16) (c:4096<=x) (d:x+n<=12288):cM x n 1=true:=by
 rw [aDW e a b,decide_eq_true c,decide_eq_true d];rfl
theorem GQ {x:Int} (a:0<=x) (b:x<18446744073709551616):rng64 x=true:=by
 simp only [rng64,ZA2,decide_eq_true_eq];exact ⟨a,b⟩
theorem aCG {x:Int} (b:4096<=x) (c:x<12288):(rng64 x&&iS (aQ x))=true:=by
 have a:rng64 x=true:=GQ (by omega) (by omega);have d:=pD a
 have:aQ x=1\/aQ x=2:=by omega
 rw [a]
 rcases this with h | h <;> rw [h] <;> rfl
theorem a5D (x i:Int):rng64 (p8 x i)=true:=by
 have e:p8 x i=(x+i) % 18446744073709551616:=rfl;rw [e];exact GQ (by omega) (by omega)
theorem aH3 {f:Nat->Int} (i:Nat):(List.range (i+1)).map f=(List.range i).map f++[f i]:=by
 rw [List.range_succ,List.map_append];rfl
theorem aHB {a b c d e:List Int} {x:Int} (o:lens5 a b c d e=true) (n:rng64 x=true):∀ (m i:Nat),i+m=10->i<=dL x ->
  O2 a b c d e x m i ((List.range i).map fun (j:Nat)=>iO a b c d e (x+(j:Int)))=zX (aR a b c d e) (bL a b c d e x)
 | 0,i,hi,hf=>by
  have:i=dL x:=by have:=K7 x; omega
  subst this;rfl
 | m+1,i,hi,hf=>by
  have p:=a5D x (i:Int);have e0:p8 x (i:Int)=(x+(i:Int)) % 18446744073709551616:=rfl;unfold O2;rw [o,p,Bool.true_and,Bool.true_and];simp only [cond_true];simp only [rng64,ZA2,decide_eq_true_eq] at n;by_cases hlt:i<dL x
  ·have l:4096<=x/\x+i<12288:=by
    unfold dL at hlt;split at hlt <;> omega
   have r:p8 x (i:Int)=x+i:=by rw [e0]; omega
   rw [decide_eq_false (by omega),cond_false,r,aIA (GQ (by omega) (by omega)) (by omega) (by omega) (by omega) (by omega)];have q:=aCG (x:=x+i) (by omega) l.2;rw [GQ (x:=x+i) (by omega) (by omega),Bool.true_and] at q;rw [q];simp only [Bool.not_true,cond_false,cond_true];rw [<- aH3 (f:=fun (j:Nat)=>iO a b c d e (x+(j:Int))) i];exact aHB o (GQ n.1 n.2) m (i+1) (by omega) hlt
  ·have g:i=dL x:=by omega
   have h:zX (aR a b c d e) ((List.range i).map fun (j:Nat)=>iO a b c d e (x+(j:Int)))=zX (aR a b c d e) (bL a b c d e x):=by
    rw [g];rfl
   rw [h];cases k:decide (p8 x (i:Int)<x)
   ·have k:=of_decide_eq_false k
    have s:cM (p8 x (i:Int)) 1 1=false:=by
     refine aG9 p (by omega) (by omega) ?_;unfold dL at g;split at g <;> omega
    rw [cond_false,s];rfl
   ·rfl
theorem aER {a b c d e:List Int} {x:Int} (h:lens5 a b c d e=true) (l:0<dL x):∀ (m i:Nat),i+m=dL x ->
  MR a b c d e x m i ((List.range i).map fun (j:Nat)=>iO a b c d e (x+(j:Int)))=some (.ok (.tup [.gro 7 (.int .u8) (bL a b c d e x),.int .i64 0]) (aO a b c d e++[.tok (bL a b c d e x).length 1]))
 | 0,i,hi=>by
  have:i=dL x:=by omega
  subst this;rfl
 | m+1,i,hi=>by
  have g:4096<=x/\x+i<12288:=by
   unfold dL at hi;split at hi <;> omega
  have k:a8 x i=x+i:=JO (by omega) (by omega);unfold MR;rw [h,k,aCG (by omega) g.2];simp only [Bool.and_self,cond_true];rw [<- aH3 (f:=fun (j:Nat)=>iO a b c d e (x+(j:Int))) i];exact aER h l m (i+1) (by omega)
def NO (a b c d e:List Int) (x:Int):Option Res:=
 cond (Nat.beq (dL x) 0) (some (.ok (.tup [.val (.slice none 0 0),.int .i64 21]) (aO a b c d e))) (some (.ok (.tup [.gro 7 (.int .u8) (bL a b c d e x),.int .i64 0]) (aO a b c d e++[.tok (bL a b c d e x).length 1])))
theorem a6I {a b c d e:List Int} {x:Int} (n:lens5 a b c d e=true) (i:rng64 x=true):∀ (m k:Nat),k+m=10->k<=dL x->OL a b c d e x m k=NO a b c d e x:=by
 have f:L4 a b c d e x (dL x)=NO a b c d e x:=by
  unfold L4 NO;cases h:Nat.beq (dL x) 0
  ·have r:0<dL x:=by
    rcases Nat.eq_zero_or_pos (dL x) with j | j
    ·rw [j] at h; cases h
    ·exact j
   exact aER n r (dL x) 0 (by omega)
  ·rfl
 intro m
 induction m with
 | zero =>
  intro k q o
  have:k=dL x:=by have:=K7 x; omega
  rw [this];exact f
 | succ m s =>
  intro k q o;unfold OL;rw [n,i];simp only [Bool.and_self,cond_true];have l := i;simp only [rng64,ZA2,decide_eq_true_eq] at l;by_cases hlt:k<dL x
  ·have p:4096<=x/\x+k<12288:=by
    unfold dL at hlt;split at hlt <;> omega
   rw [aIA i (by omega) (by omega) (by omega) (by omega),cond_true];exact s (k+1) (by omega) hlt
  ·have g:k=dL x:=by omega
   rw [aG9 i (by omega) (by omega) (by
    unfold dL at g
    split at g <;> omega),cond_false,g]
   exact f
theorem a11 {a b c d e:List Int} {x:Int} (h:Nat.beq (dL x) 0=true):bL a b c d e x=[]:=by
 unfold bL;rw [Nat.eq_of_beq_eq_true h];rfl
theorem a3U (a b c d e:List Int) (x:Int):zX (aR a b c d e) (bL a b c d e x) =
  cond (Nat.beq (dL x) 0) (some (.ok (.tup [.val (.slice none 0 0),.int .i64 21]) (aR a b c d e))) (some (.ok (.tup [.gro 7 (.int .u8) (bL a b c d e x),.int .i64 0]) (aR a b c d e++[.tok (bL a b c d e x).length 1]))):=by
 cases h:Nat.beq (dL x) 0
 ·have hlen:=RL a b c d e x
  cases f:bL a b c d e x with
  | nil =>
   rw [f] at hlen;rw [<- hlen] at h;cases h
  | cons y r=>rfl
 ·rw [a11 h]
  rfl
def VK:MSpec:=fun args H=>match args with
 | [.ptr 0 0,.int .u64 x,.int .i64 n]=>lT (fun a b c d e=>.aF (rng64 x&&n==10) (.br (Nat.beq (dL x) 0) (.leaf (.ok (.tup [.val (.slice none 0 0),.int .i64 21]) (aR a b c d e)))
   (.leaf (.ok (.tup [.gro 7 (.int .u8) (bL a b c d e x),.int .i64 0]) (aR a b c d e++[.tok (bL a b c d e x).length 1]))))) H
 | _=>.fail
def TN:MSpec:=fun args H=>match args with
 | [.ptr 0 0,.int .u64 x,.int .i64 n]=>mX (fun a b c d e=>.aF (rng64 x&&n==10) (.br (Nat.beq (dL x) 0) (.leaf (.ok (.tup [.val (.slice none 0 0),.int .i64 21]) (aO a b c d e)))
   (.leaf (.ok (.tup [.gro 7 (.int .u8) (bL a b c d e x),.int .i64 0]) (aO a b c d e++[.tok (bL a b c d e x).length 1]))))) H
 | _=>.fail
theorem aHW {α:Type} (c:Bool) (x y:Tree α):(Tree.br c x y).run=cond c x.run y.run:=by cases c <;> rfl
theorem aXS:bP prog 16 VK:=by
 intro args H out h;unfold VK at h;split at h;rotate_left
 ·cases h
 rename_i x n;obtain ⟨a,b,c,d,e,rfl,hl,h⟩:=m6 h;obtain ⟨g,hres⟩:=aM h
 clear h
 obtain ⟨i,f⟩:=ZA0.1 g
 have f:n=10:=by simpa using f
 subst f;refine fA (cx:=Z4) (fn:=Tryz.f16) a9Q (by kernel_rfl) (by kernel_rfl) _ _ _ ?_;refine nC (by kernel_rfl) ?_;rw [<- Tree.bJ];refine (agR a b c d e x).trans ?_;refine (aHB hl i 10 0 rfl (Nat.zero_le _)).trans ?_;rw [a3U,<- hres,aHW];rfl
theorem aW1:bP prog 43 TN:=by
 intro args H out h;unfold TN at h;split at h;rotate_left
 ·cases h
 rename_i x n;obtain ⟨a,b,c,d,e,rfl,hl,h⟩:=nZ h;obtain ⟨g,hres⟩:=aM h
 clear h
 obtain ⟨i,f⟩:=ZA0.1 g
 have f:n=10:=by simpa using f
 subst f;refine fA (cx:=ZU) (fn:=Tryz.f43) a9G (by kernel_rfl) (by kernel_rfl) _ _ _ ?_;refine nC (by kernel_rfl) ?_;rw [<- Tree.bJ];refine (aiK a b c d e x).trans ?_;refine (a6I hl i 10 0 rfl (Nat.zero_le _)).trans ?_;unfold NO;rw [<- hres,aHW];rfl
end Go.Ra
